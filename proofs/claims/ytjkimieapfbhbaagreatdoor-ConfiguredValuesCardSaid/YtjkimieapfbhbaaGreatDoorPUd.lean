/-
 The program's test of what a kind of relays does not use.
-/
import Derived.Test.YtjkimieapfbhbaaGreatDoorKPUb
import Derived.Test.YtjkimieapfbhbaaGreatDoorKVd
import Derived.Deep.DeepCutAuto
import Derived.Deep.CutRange
set_option maxRecDepth 100000
set_option maxHeartbeats 16000000
open Go.Value renaming bool → b
open Go.Obj renaming cells → c
namespace Go.Proofs.YtjkimieapfbhbaaGreatDoor
open Go.RowKit
attribute [local go_sem high] eqE eqC eqZ eqZs
theorem zhD (nm:ByteArray) (k:Int) (n:NumM) (c49 c50 c51 c52:Value) (cs:List Value) (hcs:cs=zbd nm k n c49 c50 c51 c52) (hk:k=1∨k=2∨k=3∨k=4) (h:ForeignF k n) (w:World):Calls Tryz.prog 135 #[.agg cs.toArray] w (zaG true w):=by
 have q1:=rq w hcs 1 rfl;have q3:=rq w hcs 3 rfl;have q4:=rq w hcs 4 rfl;have q5:=rq w hcs 5 rfl;have q6:=rq w hcs 6 rfl;have q7:=rq w hcs 7 rfl;have q8:=rq w hcs 8 rfl;have q9:=rq w hcs 9 rfl;have q10:=rq w hcs 10 rfl;have q11:=rq w hcs 11 rfl;have q12:=rq w hcs 12 rfl;have q13:=rq w hcs 13 rfl;have q14:=rq w hcs 14 rfl;have q15:=rq w hcs 15 rfl;have q16:=rq w hcs 16 rfl;have q17:=rq w hcs 17 rfl;have q18:=rq w hcs 18 rfl;have q19:=rq w hcs 19 rfl;have q20:=rq w hcs 20 rfl;have q21:=rq w hcs 21 rfl;have q22:=rq w hcs 22 rfl;have q23:=rq w hcs 23 rfl;have q24:=rq w hcs 24 rfl;have q25:=rq w hcs 25 rfl;have q26:=rq w hcs 26 rfl;have q27:=rq w hcs 27 rfl;have q28:=rq w hcs 28 rfl;have q29:=rq w hcs 29 rfl;have q30:=rq w hcs 30 rfl;have q31:=rq w hcs 31 rfl;have q32:=rq w hcs 32 rfl;have q33:=rq w hcs 33 rfl;have q34:=rq w hcs 34 rfl;have q35:=rq w hcs 35 rfl;have q36:=rq w hcs 36 rfl;have q37:=rq w hcs 37 rfl;have q38:=rq w hcs 38 rfl;have q39:=rq w hcs 39 rfl;have q40:=rq w hcs 40 rfl;have q41:=rq w hcs 41 rfl;have q42:=rq w hcs 42 rfl;have q43:=rq w hcs 43 rfl;have q44:=rq w hcs 44 rfl;have q45:=rq w hcs 45 rfl;have q46:=rq w hcs 46 rfl;have q47:=rq w hcs 47 rfl;have q48:=rq w hcs 48 rfl;have hb:=zaa w (c cs.toArray 60);have hg:w.heap.size<(w.alloc (c cs.toArray 60)).heap.size:=by simp
 have a1:k=1∨(n.nilB=true∧(n.mn == 0)=true∧(n.kre == 0)=true∧(n.kim == 0)=true∧(n.scheme == 0)=true∧(n.wait == 0)=true∧(n.guard == 0)=true∧(n.shots == 0)=true∧(n.dead == 0)=true∧(n.reclaim == 0)=true):=by
  rcases h.line with h | ⟨z0,z1,z2,h⟩
  · exact .inl h
  · exact .inr ⟨(NumM.nilB_iff n).2 ⟨z0,z1,z2⟩,by simpa only [beq_iff_eq] using h⟩
 have a2:k=2∨(n.under.nilB=true∧n.over.nilB=true):=by
  rcases h.source with h | ⟨h1,h2⟩
  · exact .inl h
  · exact .inr ⟨(ElM.nilB_iff _).2 h1,(ElM.nilB_iff _).2 h2⟩
 have a3:(k≠4∧(n.diff == 0)=true∧(n.num == 0)=true∧(n.den == 0)=true∧(n.harm == 0)=true)∨(k=4∧n.defi.nilB=true∧n.inv.nilB=true∧n.fail.nilB=true):=by
  rcases h.bus with ⟨h0,h⟩ | ⟨h0,h1,h2,h3⟩
  · exact .inl ⟨h0,by simpa only [beq_iff_eq] using h⟩
  · exact .inr ⟨h0,(ElM.nilB_iff _).2 h1,(ElM.nilB_iff _).2 h2,(ElM.nilB_iff _).2 h3⟩
 clear hcs h;have HQ3:=Hd q3;have HQ4:=Hd q4;have HQ5:=Hd q5;have HQ6:=Hd q6;have HQ7:=Hd q7;have HQ8:=Hd q8;have HQ9:=Hd q9;have HQ10:=Hd q10;have HQ11:=Hd q11;have HQ12:=Hd q12;have HQ13:=Hd q13;have HQ14:=Hd q14;have HQ15:=Hd q15;have HQ16:=Hd q16;have HQ17:=Hd q17;have HQ18:=Hd q18;have HQ19:=Hd q19;have HQ20:=Hd q20;have HQ21:=Hd q21;have HQ22:=Hd q22;have HQ23:=Hd q23;have HQ24:=Hd q24;have HQ25:=Hd q25;have HQ26:=Hd q26;have HQ27:=Hd q27;have HQ28:=Hd q28;have HQ29:=Hd q29;have HQ30:=Hd q30;have HQ31:=Hd q31;have HQ32:=Hd q32;have HQ33:=Hd q33;have HQ34:=Hd q34;have HQ35:=Hd q35;have HQ36:=Hd q36;have HQ37:=Hd q37;have HQ38:=Hd q38;have HQ39:=Hd q39;have HQ40:=Hd q40;have HQ41:=Hd q41;have HQ42:=Hd q42;have HQ43:=Hd q43;have HQ44:=Hd q44;have HQ45:=Hd q45;have HQ46:=Hd q46;have HQ47:=Hd q47;have HQ48:=Hd q48;clear q3 q4 q5 q6 q7 q8 q9 q10 q11 q12 q13 q14 q15 q16 q17 q18 q19 q20 q21 q22 q23 q24 q25 q26 q27 q28 q29 q30 q31 q32 q33 q34 q35 q36 q37 q38 q39 q40 q41 q42 q43 q44 q45 q46 q47 q48
 rcases hk with rfl | rfl | rfl | rfl
 · replace a2:=a2.resolve_left (by decide)
   replace a3:=a3.resolve_right (fun q=>absurd q.1 (by decide))
   obtain ⟨e1,e2⟩:=a2
   obtain ⟨-,e3,e4,e5,e6⟩:=a3
   clear a1
   go_enter Tryz.func135,Tryz.ntmps135
   go_upto_region 1 with fail
   generalize w.alloc (c cs.toArray 60)=W0 at *
   go_upto_region 5 with fail
   go_cut [3] from 62 to 74 (fun v wx=>v = b true∧W0=wx)
   case first=>as_aux_lemma =>
    have q39:=HQ39.out
    have q40:=HQ40.out
    have q41:=HQ41.out
    have q42:=HQ42.out
    have q43:=HQ43.out
    have q44:=HQ44.out
    go_wp2
    go_meet
    exact ⟨rfl,rfl⟩
   case rest =>
    obtain ⟨rfl,rfl⟩:=hcut
    go_upto_region 8 with fail
    go_cut [3] from 97 to 117 (fun v wx=>v = b true∧W0=wx)
    case first=>as_aux_lemma =>
     have q45:=HQ45.out
     have q46:=HQ46.out
     have q47:=HQ47.out
     have q48:=HQ48.out
     go_wp2
     go_meet
     exact ⟨rfl,rfl⟩
    case rest =>
     obtain ⟨rfl,rfl⟩:=hcut
     go_wp2
     go_ret
     exact ⟨rfl,hb⟩
 · replace a1:=a1.resolve_left (by decide)
   replace a3:=a3.resolve_right (fun q=>absurd q.1 (by decide))
   obtain ⟨e1,e2,f1,f2,f3,f4,f5,f6,f7,f8⟩:=a1
   obtain ⟨-,e3,e4,e5,e6⟩:=a3
   clear a2
   go_enter Tryz.func135,Tryz.ntmps135
   go_upto_region 1 with fail
   generalize w.alloc (c cs.toArray 60)=W0 at *
   go_upto_region 3 with fail
   go_cut [3] from 7 to 58 (fun v wx=>v = b true∧W0=wx)
   case first=>as_aux_lemma =>
    have q3:=HQ3.out
    have q4:=HQ4.out
    have q5:=HQ5.out
    have q6:=HQ6.out
    have q7:=HQ7.out
    have q8:=HQ8.out
    have q9:=HQ9.out
    have q10:=HQ10.out
    have q11:=HQ11.out
    have q12:=HQ12.out
    have q13:=HQ13.out
    have q14:=HQ14.out
    have q15:=HQ15.out
    have q16:=HQ16.out
    have q17:=HQ17.out
    have q18:=HQ18.out
    have q19:=HQ19.out
    have q20:=HQ20.out
    have q21:=HQ21.out
    have q22:=HQ22.out
    have q23:=HQ23.out
    have q24:=HQ24.out
    have q25:=HQ25.out
    have q26:=HQ26.out
    have q36:=HQ36.out
    have q37:=HQ37.out
    have q38:=HQ38.out
    go_wp2
    go_meet
    exact ⟨rfl,rfl⟩
   case rest =>
    obtain ⟨rfl,rfl⟩:=hcut
    go_upto_region 8 with fail
    go_cut [3] from 97 to 117 (fun v wx=>v = b true∧W0=wx)
    case first=>as_aux_lemma =>
     have q45:=HQ45.out
     have q46:=HQ46.out
     have q47:=HQ47.out
     have q48:=HQ48.out
     go_wp2
     go_meet
     exact ⟨rfl,rfl⟩
    case rest =>
     obtain ⟨rfl,rfl⟩:=hcut
     go_wp2
     go_ret
     exact ⟨rfl,hb⟩
 · replace a1:=a1.resolve_left (by decide)
   replace a2:=a2.resolve_left (by decide)
   replace a3:=a3.resolve_right (fun q=>absurd q.1 (by decide))
   obtain ⟨e1,e2,f1,f2,f3,f4,f5,f6,f7,f8⟩:=a1
   obtain ⟨g1,g2⟩:=a2
   obtain ⟨-,e3,e4,e5,e6⟩:=a3
   go_enter Tryz.func135,Tryz.ntmps135
   go_upto_region 1 with fail
   generalize w.alloc (c cs.toArray 60)=W0 at *
   go_upto_region 3 with fail
   go_cut [3] from 7 to 58 (fun v wx=>v = b true∧W0=wx)
   case first=>as_aux_lemma =>
    have q3:=HQ3.out
    have q4:=HQ4.out
    have q5:=HQ5.out
    have q6:=HQ6.out
    have q7:=HQ7.out
    have q8:=HQ8.out
    have q9:=HQ9.out
    have q10:=HQ10.out
    have q11:=HQ11.out
    have q12:=HQ12.out
    have q13:=HQ13.out
    have q14:=HQ14.out
    have q15:=HQ15.out
    have q16:=HQ16.out
    have q17:=HQ17.out
    have q18:=HQ18.out
    have q19:=HQ19.out
    have q20:=HQ20.out
    have q21:=HQ21.out
    have q22:=HQ22.out
    have q23:=HQ23.out
    have q24:=HQ24.out
    have q25:=HQ25.out
    have q26:=HQ26.out
    have q36:=HQ36.out
    have q37:=HQ37.out
    have q38:=HQ38.out
    go_wp2
    go_meet
    exact ⟨rfl,rfl⟩
   case rest =>
    obtain ⟨rfl,rfl⟩:=hcut
    go_upto_region 5 with fail
    go_cut [3] from 62 to 74 (fun v wx=>v = b true∧W0=wx)
    case first=>as_aux_lemma =>
     have q39:=HQ39.out
     have q40:=HQ40.out
     have q41:=HQ41.out
     have q42:=HQ42.out
     have q43:=HQ43.out
     have q44:=HQ44.out
     go_wp2
     go_meet
     exact ⟨rfl,rfl⟩
    case rest =>
     obtain ⟨rfl,rfl⟩:=hcut
     go_upto_region 8 with fail
     go_cut [3] from 97 to 117 (fun v wx=>v = b true∧W0=wx)
     case first=>as_aux_lemma =>
      have q45:=HQ45.out
      have q46:=HQ46.out
      have q47:=HQ47.out
      have q48:=HQ48.out
      go_wp2
      go_meet
      exact ⟨rfl,rfl⟩
     case rest =>
      obtain ⟨rfl,rfl⟩:=hcut
      go_wp2
      go_ret
      exact ⟨rfl,hb⟩
 · replace a1:=a1.resolve_left (by decide)
   replace a2:=a2.resolve_left (by decide)
   replace a3:=a3.resolve_left (fun q=>absurd rfl q.1)
   obtain ⟨e1,e2,f1,f2,f3,f4,f5,f6,f7,f8⟩:=a1
   obtain ⟨g1,g2⟩:=a2
   obtain ⟨-,e3,e4,e5⟩:=a3
   go_enter Tryz.func135,Tryz.ntmps135
   go_upto_region 1 with fail
   generalize w.alloc (c cs.toArray 60)=W0 at *
   go_upto_region 3 with fail
   go_cut [3] from 7 to 58 (fun v wx=>v = b true∧W0=wx)
   case first=>as_aux_lemma =>
    have q3:=HQ3.out
    have q4:=HQ4.out
    have q5:=HQ5.out
    have q6:=HQ6.out
    have q7:=HQ7.out
    have q8:=HQ8.out
    have q9:=HQ9.out
    have q10:=HQ10.out
    have q11:=HQ11.out
    have q12:=HQ12.out
    have q13:=HQ13.out
    have q14:=HQ14.out
    have q15:=HQ15.out
    have q16:=HQ16.out
    have q17:=HQ17.out
    have q18:=HQ18.out
    have q19:=HQ19.out
    have q20:=HQ20.out
    have q21:=HQ21.out
    have q22:=HQ22.out
    have q23:=HQ23.out
    have q24:=HQ24.out
    have q25:=HQ25.out
    have q26:=HQ26.out
    have q36:=HQ36.out
    have q37:=HQ37.out
    have q38:=HQ38.out
    go_wp2
    go_meet
    exact ⟨rfl,rfl⟩
   case rest =>
    obtain ⟨rfl,rfl⟩:=hcut
    go_upto_region 5 with fail
    go_cut [3] from 62 to 74 (fun v wx=>v = b true∧W0=wx)
    case first=>as_aux_lemma =>
     have q39:=HQ39.out
     have q40:=HQ40.out
     have q41:=HQ41.out
     have q42:=HQ42.out
     have q43:=HQ43.out
     have q44:=HQ44.out
     go_wp2
     go_meet
     exact ⟨rfl,rfl⟩
    case rest =>
     obtain ⟨rfl,rfl⟩:=hcut
     go_upto_region 7 with fail
     go_cut [3] from 78 to 96 (fun v wx=>v = b true∧W0=wx)
     case first=>as_aux_lemma =>
      have q27:=HQ27.out
      have q28:=HQ28.out
      have q29:=HQ29.out
      have q30:=HQ30.out
      have q31:=HQ31.out
      have q32:=HQ32.out
      have q33:=HQ33.out
      have q34:=HQ34.out
      have q35:=HQ35.out
      go_wp2
      go_meet
      exact ⟨rfl,rfl⟩
     case rest =>
      obtain ⟨rfl,rfl⟩:=hcut
      go_wp2
      go_ret
      exact ⟨rfl,hb⟩
end Go.Proofs.YtjkimieapfbhbaaGreatDoor
