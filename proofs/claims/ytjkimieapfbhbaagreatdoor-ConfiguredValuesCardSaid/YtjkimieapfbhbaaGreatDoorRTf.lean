/-
 The reference's test of what a kind of relays does not use.
-/
import Derived.Test.YtjkimieapfbhbaaGreatDoorRTn
set_option maxRecDepth 100000
set_option maxHeartbeats 16000000
open Option renaming none → f
open Go.RowKit.Below renaming refl → g
namespace Go.Proofs.YtjkimieapfbhbaaGreatDoor
open Go.RowKit
attribute [local go_sem high] eqE eqC eqZ eqZs
def FgA (k:Int) (n:NumM):Prop:=k=1∨(n.nilB=true∧n.mn=0∧n.kre=0∧n.kim=0∧n.scheme=0∧n.wait=0∧n.guard=0∧n.shots=0∧n.dead=0∧n.reclaim=0)
def FgB (k:Int) (n:NumM):Prop:=k=2∨(n.under.nilB=true∧n.over.nilB=true)
def FgC (k:Int) (n:NumM):Prop:=k≠4∨(n.defi.nilB=true∧n.inv.nilB=true∧n.fail.nilB=true)
def K3R (k:Int) (W:World) (v3 v4 v5:Value) (wx:World):Prop:=∃ b1 b2 b4:Bool,(v3 = .bool b1∧v4 = .bool b2∧v5 = .bool b4)∧(b1=(k == 1)∧b2=(k == 2)∧b4=(k == 4))∧Below W.heap.size W wx
theorem ziJ {k:Int} {n:NumM} (a:FgA k n) (b:FgB k n) (c:FgC k n) (d:k=4∨(n.diff=0∧n.num=0∧n.den=0∧n.harm=0)):ForeignF k n:=by
 refine ⟨?_,?_,?_⟩
 · rcases a with a | ⟨a1,a⟩
   · exact .inl a
   · exact .inr ⟨((NumM.nilB_iff _).1 a1).1,((NumM.nilB_iff _).1 a1).2.1,((NumM.nilB_iff _).1 a1).2.2,a⟩
 · rcases b with b | ⟨b1,b2⟩
   · exact .inl b
   · exact .inr ⟨(ElM.nilB_iff _).1 b1,(ElM.nilB_iff _).1 b2⟩
 · by_cases h4:k=4
   · rcases c with c | ⟨c1,c2,c3⟩
     · exact absurd h4 c
     · exact .inr ⟨h4,(ElM.nilB_iff _).1 c1,(ElM.nilB_iff _).1 c2,(ElM.nilB_iff _).1 c3⟩
   · rcases d with d | d
     · exact absurd d h4
     · exact .inl ⟨h4,d⟩
theorem zfP (nm:ByteArray) (k:Int) (n:NumM) (c49 c50 c51 c52:Value) (cs:List Value) (hcs:cs=zbd nm k n c49 c50 c51 c52) (w:World):Calls Tryz.prog 57 #[.agg cs.toArray] w (NoSays (ForeignF k n) w):=by
 have q1:=rq w hcs 1 rfl;have q3:=rq w hcs 3 rfl;have q4:=rq w hcs 4 rfl;have q5:=rq w hcs 5 rfl;have q6:=rq w hcs 6 rfl;have q7:=rq w hcs 7 rfl;have q8:=rq w hcs 8 rfl;have q9:=rq w hcs 9 rfl;have q10:=rq w hcs 10 rfl;have q11:=rq w hcs 11 rfl;have q12:=rq w hcs 12 rfl;have q13:=rq w hcs 13 rfl;have q14:=rq w hcs 14 rfl;have q15:=rq w hcs 15 rfl;have q16:=rq w hcs 16 rfl;have q17:=rq w hcs 17 rfl;have q18:=rq w hcs 18 rfl;have q19:=rq w hcs 19 rfl;have q20:=rq w hcs 20 rfl;have q21:=rq w hcs 21 rfl;have q22:=rq w hcs 22 rfl;have q23:=rq w hcs 23 rfl;have q24:=rq w hcs 24 rfl;have q25:=rq w hcs 25 rfl;have q26:=rq w hcs 26 rfl;have q27:=rq w hcs 27 rfl;have q28:=rq w hcs 28 rfl;have q29:=rq w hcs 29 rfl;have q30:=rq w hcs 30 rfl;have q31:=rq w hcs 31 rfl;have q32:=rq w hcs 32 rfl;have q33:=rq w hcs 33 rfl;have q34:=rq w hcs 34 rfl;have q35:=rq w hcs 35 rfl;have q36:=rq w hcs 36 rfl;have q37:=rq w hcs 37 rfl;have q38:=rq w hcs 38 rfl;have q39:=rq w hcs 39 rfl;have q40:=rq w hcs 40 rfl;have q41:=rq w hcs 41 rfl;have q42:=rq w hcs 42 rfl;have q43:=rq w hcs 43 rfl;have q44:=rq w hcs 44 rfl;have q45:=rq w hcs 45 rfl;have q46:=rq w hcs 46 rfl;have q47:=rq w hcs 47 rfl;have q48:=rq w hcs 48 rfl;have hb:=zaa w (Obj.cells cs.toArray 60);have hg:w.heap.size<(w.alloc (Obj.cells cs.toArray 60)).heap.size:=by simp
 clear hcs;go_enter Tryz.func57,Tryz.ntmps57;go_wp2;generalize w.alloc (Obj.cells cs.toArray 60)=W0 at *;have HQ3:=Hd q3;have HQ4:=Hd q4;have HQ5:=Hd q5;have HQ6:=Hd q6;have HQ7:=Hd q7;have HQ8:=Hd q8;have HQ9:=Hd q9;have HQ10:=Hd q10;have HQ11:=Hd q11;have HQ12:=Hd q12;have HQ13:=Hd q13;have HQ14:=Hd q14;have HQ15:=Hd q15;have HQ16:=Hd q16;have HQ17:=Hd q17;have HQ18:=Hd q18;have HQ19:=Hd q19;have HQ20:=Hd q20;have HQ21:=Hd q21;have HQ22:=Hd q22;have HQ23:=Hd q23;have HQ24:=Hd q24;have HQ25:=Hd q25;have HQ26:=Hd q26;have HQ27:=Hd q27;have HQ28:=Hd q28;have HQ29:=Hd q29;have HQ30:=Hd q30;have HQ31:=Hd q31;have HQ32:=Hd q32;have HQ33:=Hd q33;have HQ34:=Hd q34;have HQ35:=Hd q35;have HQ36:=Hd q36;have HQ37:=Hd q37;have HQ38:=Hd q38;have HQ39:=Hd q39;have HQ40:=Hd q40;have HQ41:=Hd q41;have HQ42:=Hd q42;have HQ43:=Hd q43;have HQ44:=Hd q44;have HQ45:=Hd q45;have HQ46:=Hd q46;have HQ47:=Hd q47;have HQ48:=Hd q48;clear q3 q4 q5 q6 q7 q8 q9 q10 q11 q12 q13 q14 q15 q16 q17 q18 q19 q20 q21 q22 q23 q24 q25 q26 q27 q28 q29 q30 q31 q32 q33 q34 q35 q36 q37 q38 q39 q40 q41 q42 q43 q44 q45 q46 q47 q48
 go_cut [3,4,5] from 3 to 14 (K3R k W0)
 case first =>
  go_quiet (fail)
  go_wp2;go_meet;exact ⟨_,_,_,⟨rfl,rfl,rfl⟩,⟨rfl,rfl,rfl⟩,zag (g _ _) _⟩
 obtain ⟨b1,b2,b4,⟨rfl,rfl,rfl⟩,⟨e1,e2,e4⟩,hbel⟩:=hcut;have E1:=Hd e1;have E2:=Hd e2;have E4:=Hd e4;clear q1 e1 e2 e4;have hb1:=Below.then hb hbel
 have HP3:=Hd ((hbel.cell (p:=⟨w.heap.size,3,f⟩) hg).trans HQ3.out);have HP4:=Hd ((hbel.cell (p:=⟨w.heap.size,4,f⟩) hg).trans HQ4.out);have HP5:=Hd ((hbel.cell (p:=⟨w.heap.size,5,f⟩) hg).trans HQ5.out);have HP6:=Hd ((hbel.cell (p:=⟨w.heap.size,6,f⟩) hg).trans HQ6.out);have HP7:=Hd ((hbel.cell (p:=⟨w.heap.size,7,f⟩) hg).trans HQ7.out);have HP8:=Hd ((hbel.cell (p:=⟨w.heap.size,8,f⟩) hg).trans HQ8.out);have HP9:=Hd ((hbel.cell (p:=⟨w.heap.size,9,f⟩) hg).trans HQ9.out);have HP10:=Hd ((hbel.cell (p:=⟨w.heap.size,10,f⟩) hg).trans HQ10.out);have HP11:=Hd ((hbel.cell (p:=⟨w.heap.size,11,f⟩) hg).trans HQ11.out);have HP12:=Hd ((hbel.cell (p:=⟨w.heap.size,12,f⟩) hg).trans HQ12.out);have HP13:=Hd ((hbel.cell (p:=⟨w.heap.size,13,f⟩) hg).trans HQ13.out);have HP14:=Hd ((hbel.cell (p:=⟨w.heap.size,14,f⟩) hg).trans HQ14.out);have HP15:=Hd ((hbel.cell (p:=⟨w.heap.size,15,f⟩) hg).trans HQ15.out);have HP16:=Hd ((hbel.cell (p:=⟨w.heap.size,16,f⟩) hg).trans HQ16.out);have HP17:=Hd ((hbel.cell (p:=⟨w.heap.size,17,f⟩) hg).trans HQ17.out);have HP18:=Hd ((hbel.cell (p:=⟨w.heap.size,18,f⟩) hg).trans HQ18.out);have HP19:=Hd ((hbel.cell (p:=⟨w.heap.size,19,f⟩) hg).trans HQ19.out);have HP20:=Hd ((hbel.cell (p:=⟨w.heap.size,20,f⟩) hg).trans HQ20.out);have HP21:=Hd ((hbel.cell (p:=⟨w.heap.size,21,f⟩) hg).trans HQ21.out);have HP22:=Hd ((hbel.cell (p:=⟨w.heap.size,22,f⟩) hg).trans HQ22.out);have HP23:=Hd ((hbel.cell (p:=⟨w.heap.size,23,f⟩) hg).trans HQ23.out);have HP24:=Hd ((hbel.cell (p:=⟨w.heap.size,24,f⟩) hg).trans HQ24.out);have HP25:=Hd ((hbel.cell (p:=⟨w.heap.size,25,f⟩) hg).trans HQ25.out);have HP26:=Hd ((hbel.cell (p:=⟨w.heap.size,26,f⟩) hg).trans HQ26.out);have HP27:=Hd ((hbel.cell (p:=⟨w.heap.size,27,f⟩) hg).trans HQ27.out);have HP28:=Hd ((hbel.cell (p:=⟨w.heap.size,28,f⟩) hg).trans HQ28.out);have HP29:=Hd ((hbel.cell (p:=⟨w.heap.size,29,f⟩) hg).trans HQ29.out);have HP30:=Hd ((hbel.cell (p:=⟨w.heap.size,30,f⟩) hg).trans HQ30.out);have HP31:=Hd ((hbel.cell (p:=⟨w.heap.size,31,f⟩) hg).trans HQ31.out);have HP32:=Hd ((hbel.cell (p:=⟨w.heap.size,32,f⟩) hg).trans HQ32.out);have HP33:=Hd ((hbel.cell (p:=⟨w.heap.size,33,f⟩) hg).trans HQ33.out);have HP34:=Hd ((hbel.cell (p:=⟨w.heap.size,34,f⟩) hg).trans HQ34.out);have HP35:=Hd ((hbel.cell (p:=⟨w.heap.size,35,f⟩) hg).trans HQ35.out);have HP36:=Hd ((hbel.cell (p:=⟨w.heap.size,36,f⟩) hg).trans HQ36.out);have HP37:=Hd ((hbel.cell (p:=⟨w.heap.size,37,f⟩) hg).trans HQ37.out);have HP38:=Hd ((hbel.cell (p:=⟨w.heap.size,38,f⟩) hg).trans HQ38.out);have HP39:=Hd ((hbel.cell (p:=⟨w.heap.size,39,f⟩) hg).trans HQ39.out)
 have HP40:=Hd ((hbel.cell (p:=⟨w.heap.size,40,f⟩) hg).trans HQ40.out);have HP41:=Hd ((hbel.cell (p:=⟨w.heap.size,41,f⟩) hg).trans HQ41.out);have HP42:=Hd ((hbel.cell (p:=⟨w.heap.size,42,f⟩) hg).trans HQ42.out);have HP43:=Hd ((hbel.cell (p:=⟨w.heap.size,43,f⟩) hg).trans HQ43.out);have HP44:=Hd ((hbel.cell (p:=⟨w.heap.size,44,f⟩) hg).trans HQ44.out);have HP45:=Hd ((hbel.cell (p:=⟨w.heap.size,45,f⟩) hg).trans HQ45.out);have HP46:=Hd ((hbel.cell (p:=⟨w.heap.size,46,f⟩) hg).trans HQ46.out);have HP47:=Hd ((hbel.cell (p:=⟨w.heap.size,47,f⟩) hg).trans HQ47.out);have HP48:=Hd ((hbel.cell (p:=⟨w.heap.size,48,f⟩) hg).trans HQ48.out);clear HQ3 HQ4 HQ5 HQ6 HQ7 HQ8 HQ9 HQ10 HQ11 HQ12 HQ13 HQ14 HQ15 HQ16 HQ17 HQ18 HQ19 HQ20 HQ21 HQ22 HQ23 HQ24 HQ25 HQ26 HQ27 HQ28 HQ29 HQ30 HQ31 HQ32 HQ33 HQ34 HQ35 HQ36 HQ37 HQ38 HQ39 HQ40 HQ41 HQ42 HQ43 HQ44 HQ45 HQ46 HQ47 HQ48 hb hg hbel;obtain ⟨W1,rfl⟩:∃ W1:World,W1=wc:=⟨_,rfl⟩;go_upto_region 2 with fail
 go_cut [67] from 15 to 67 (fun v wx=>GX (FgA k n) W1 v wx∧W1=wx)
 case first=>as_aux_lemma =>
  have p3:=HP3.out;have p4:=HP4.out;have p5:=HP5.out;have p6:=HP6.out;have p7:=HP7.out;have p8:=HP8.out;have p9:=HP9.out;have p10:=HP10.out;have p11:=HP11.out;have p12:=HP12.out;have p13:=HP13.out;have p14:=HP14.out;have p15:=HP15.out;have p16:=HP16.out;have p17:=HP17.out;have p18:=HP18.out;have p19:=HP19.out;have p20:=HP20.out;have p21:=HP21.out;have p22:=HP22.out;have p23:=HP23.out;have p24:=HP24.out;have p25:=HP25.out;have p26:=HP26.out;have p36:=HP36.out;have p37:=HP37.out;have p38:=HP38.out
  cases b1 with
  | true=>as_aux_lemma =>
    go_wp2
    go_meet
    exact ⟨GX.good (g _ _) fun hz => .inl (by have e:=E1.out;simpa using e.symm),rfl⟩
  | false =>
  repeat (first | go_values | go_skip | go_guarded | go_step | go_upon)
  all_goals as_aux_lemma =>
   go_wp2
   all_goals go_meet
   all_goals first
    | exact ⟨GX.bad (g _ _),rfl⟩
    | exact ⟨GX.good (g _ _) fun hz => .inr ⟨by assumption,by assumption,by assumption,by assumption,by assumption,by assumption,by assumption,by assumption,by assumption,by simpa using hz⟩,rfl⟩
 case rest =>
  obtain ⟨⟨b,rfl,hG,-⟩,rfl⟩:=hcut
  cases b
  case true =>
   go_wp2;go_ret
   exact NoSays.yes hb1
  have HFgA:=Hd (hG rfl);clear hG;go_upto_region 4 with fail
  go_cut [81] from 68 to 81 (fun v wx=>GX (FgB k n) W1 v wx∧W1=wx)
  case first=>as_aux_lemma =>
   have p39:=HP39.out;have p40:=HP40.out;have p41:=HP41.out;have p42:=HP42.out;have p43:=HP43.out;have p44:=HP44.out
   cases b2
   all_goals
    go_wp2
    all_goals go_meet
    all_goals first
     | exact ⟨GX.bad (g _ _),rfl⟩
     | exact ⟨GX.good (g _ _) fun hz => .inr ⟨by assumption,by simpa using hz⟩,rfl⟩
     | exact ⟨GX.good (g _ _) fun hz => .inl (by have e:=E2.out;simpa using e.symm),rfl⟩
  case rest =>
   obtain ⟨⟨b,rfl,hG,-⟩,rfl⟩:=hcut
   cases b
   case true =>
    go_wp2;go_ret
    exact NoSays.yes hb1
   have HFgB:=Hd (hG rfl);clear hG;go_upto_region 6 with fail
   go_cut [100] from 82 to 100 (fun v wx=>GX (FgC k n) W1 v wx∧W1=wx)
   case first=>as_aux_lemma =>
    have p27:=HP27.out;have p28:=HP28.out;have p29:=HP29.out;have p30:=HP30.out;have p31:=HP31.out;have p32:=HP32.out;have p33:=HP33.out;have p34:=HP34.out;have p35:=HP35.out
    cases b4
    all_goals
     go_wp2
     all_goals go_meet
     all_goals first
      | exact ⟨GX.bad (g _ _),rfl⟩
      | exact ⟨GX.good (g _ _) fun hz => .inr ⟨by assumption,by assumption,by simpa using hz⟩,rfl⟩
      | exact ⟨GX.good (g _ _) fun hz => .inl (by have e:=E4.out;simpa using e.symm),rfl⟩
   case rest =>
    obtain ⟨⟨b,rfl,hG,-⟩,rfl⟩:=hcut
    cases b
    case true =>
     go_wp2;go_ret
     exact NoSays.yes hb1
    have HFgC:=Hd (hG rfl);clear hG
    cases b4
    all_goals as_aux_lemma =>
     have p45:=HP45.out;have p46:=HP46.out;have p47:=HP47.out;have p48:=HP48.out;go_wp2
     all_goals go_ret
     all_goals first
      | exact NoSays.yes hb1
      | exact NoSays.of hb1 fun hz=>ziJ HFgA.out HFgB.out HFgC.out (by first | exact .inr ⟨by assumption,by assumption,by assumption,by simpa using hz⟩ | exact .inl (by have e:=E4.out;simpa using e.symm))
end Go.Proofs.YtjkimieapfbhbaaGreatDoor
