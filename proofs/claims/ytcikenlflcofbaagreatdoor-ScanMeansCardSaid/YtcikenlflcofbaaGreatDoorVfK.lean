/-
  The verifier's variable, and what it asks of an instruction: operands, argument, kind.
-/
import Derived.Test.YtcikenlflcofbaaGreatDoorEmP
import Derived.Test.YtcikenlflcofbaaGreatDoorM1
set_option maxRecDepth 100000
set_option maxHeartbeats 8000000
namespace Go.Proofs.YtcikenlflcofbaaGreatDoor
open Go.RowKit
structure VfW (w:World) (vb:Nat) (p:Pg) (l:Pl) (sv:Value) (v:Vs):Prop where
  heap:w.heap[vb]? = some (.cells #[.slice l.A1 p.ins.length l.c1,.slice l.A2 p.rls.length l.c2,.slice l.A3 p.cells.length l.c3,.slice l.A4 p.code.length l.c4,sv,.int .i64 v.stored,.int .i64 v.used] 143 (0,0))
  st:w.ownsRow (vb+1) 3 1 sv v.st.length (v.st.map (Value.int .i64))
  pg:PgI w (fun b=>b<vb) p l
theorem VfW.lt {w:World} {vb:Nat} {p:Pg} {l:Pl} {sv:Value} {v:Vs} (h:VfW w vb p l sv v):vb<w.heap.size:=(Array.getElem?_eq_some_iff.1 h.heap).1
theorem VfW.below {w w':World} {vb:Nat} {p:Pg} {l:Pl} {sv:Value} {v:Vs} (h:VfW w vb p l sv v) (k:Below w.heap.size w w'):VfW w' vb p l sv v:=
  ⟨(k.block vb h.lt).trans h.heap,zbg h.st k (Nat.le_refl _),h.pg.mono (fun _ q=>q) (zab k fun _ q=>Nat.lt_trans q h.lt)⟩
theorem VfW.drew {w:World} {vb:Nat} {p:Pg} {l:Pl} {sv:Value} {v:Vs} (h:VfW w vb p l sv v):VfW w.drew vb p l sv v:=h.below (zad (Below.refl _ _))
theorem VfW.seven {w:World} {vb:Nat} {p:Pg} {l:Pl} {sv:Value} {v:Vs} (h:VfW w vb p l sv v) :
    w.cell? ⟨vb,0,none⟩=some (.slice l.A1 p.ins.length l.c1)∧w.cell? ⟨vb,1,none⟩=some (.slice l.A2 p.rls.length l.c2)∧w.cell? ⟨vb,2,none⟩=some (.slice l.A3 p.cells.length l.c3) ∧
    w.cell? ⟨vb,4,none⟩=some sv∧w.cell? ⟨vb,5,none⟩=some (.int .i64 v.stored)∧w.cell? ⟨vb,6,none⟩=some (.int .i64 v.used):=by
  have hh:=h.heap;exact ⟨by simp [World.cell?,hh],by simp [World.cell?,hh],by simp [World.cell?,hh],by simp [World.cell?,hh],by simp [World.cell?,hh],by simp [World.cell?,hh]⟩
theorem VfW.free {w:World} {vb:Nat} {p:Pg} {l:Pl} {sv:Value} {v:Vs} (h:VfW w vb p l sv v) (i:Nat):w.frozen? ⟨vb,i,none⟩=false:=Lib.frozen_of_heap h.heap i
theorem zly (op:Int) (w:World):Calls Tryz.prog 51 #[.int .i64 op] w (zdI (opnP op) w):=by
  by_cases hr:(1≤op∧op≤22∧op≠3)∨op=30∨op=31∨op=32
  · exact ziX op w hr
  have HO:=Hi (show opnP op = -1 by unfold opnP;rw [if_neg (by omega),if_neg (by omega),if_neg (by omega),if_neg (by omega)])
  by_cases h3:op=3
  · subst h3
    clear hr
    go_enter Tryz.func51,Tryz.ntmps51
    go_wp2
    go_ret
    exact ⟨rfl,rfl⟩
  have hcs:op<1∨(22<op∧op<30)∨32<op:=by omega
  clear hr h3
  rcases hcs with h | ⟨h,h'⟩ | h
  all_goals
    go_enter Tryz.func51,Tryz.ntmps51;go_wp2;go_ret
    exact ⟨zbs HO.out.symm,rfl⟩
theorem zle {w:World} {vb:Nat} {p:Pg} {l:Pl} {sv:Value} {v:Vs} (h:VfW w vb p l sv v) (op a:Int) (ho:0≤opnP op) :
    Calls Tryz.prog 96 #[.pointer (some ⟨vb,0,none⟩),.agg #[.int .i64 op,.int .i64 a]] w (RetB (argP p v.stored v.used ⟨op,a⟩) w):=by
  obtain ⟨p0,p1,p2,p4,p5,p6⟩:=h.seven;have hlt:=h.lt;have HB:=Hi (zaa w (Obj.cells #[.int .i64 op,.int .i64 a] 76));have HR3:=Hi h.pg.r3;have l3:=h.pg.h3;have m3:=h.pg.m3;unfold maxLen at m3;obtain ⟨ins,rls,cells,code⟩:=p;obtain ⟨st,stored,used⟩:=v;dsimp only at *;obtain ⟨r,hr⟩:∃ r,argP ⟨ins,rls,cells,code⟩ stored used ⟨op,a⟩=r:=⟨_,rfl⟩;rw [hr];have HRR:=Hi hr;clear hr h
  by_cases e1:op=1
  · subst e1
    have hr:=HRR.out
    unfold argP at hr
    rw [if_pos rfl] at hr
    by_cases ha0:a=0
    · subst ha0
      have HE:=Hi (show true=r by rw [← hr];simp)
      clear hr
      go_enter Tryz.func96,Tryz.ntmps96
      go_wp2
      go_ret
      exact ⟨zae HE.out,HB.out⟩
    · have hd0:(a == 0)=false:=by simpa using ha0
      by_cases ha1:a=1
      · subst ha1
        have HE:=Hi (show true=r by rw [← hr];simp)
        clear hr
        go_enter Tryz.func96,Tryz.ntmps96
        go_wp2
        go_ret
        exact ⟨zae HE.out,HB.out⟩
      · have hd1:(a == 1)=false:=by simpa using ha1
        have HE:=Hi (show false=r by rw [← hr];simp [ha1,ha0])
        clear hr
        go_enter Tryz.func96,Tryz.ntmps96
        go_wp2
        go_ret
        exact ⟨zae HE.out,HB.out⟩
  by_cases e2:op=2
  · subst e2
    have hr:=HRR.out
    unfold argP at hr
    rw [if_neg (show ¬ ((2:Int)=1) by decide),if_pos rfl] at hr
    rcases (show a<0∨(0≤a∧a≤32767)∨32767<a by omega) with ha | ⟨ha,ha'⟩ | ha
    · have HE:=Hi (show false=r by rw [← hr];simp;omega)
      clear hr
      go_enter Tryz.func96,Tryz.ntmps96
      go_wp2
      go_ret
      exact ⟨zae HE.out,HB.out⟩
    · have HE:=Hi (show true=r by rw [← hr];simp;omega)
      clear hr
      go_enter Tryz.func96,Tryz.ntmps96
      go_wp2
      go_ret
      exact ⟨zae HE.out,HB.out⟩
    · have HE:=Hi (show false=r by rw [← hr];simp;omega)
      have h0:0≤a:=by omega
      have hd:decide (a≤32767)=false:=by simp;omega
      clear hr
      go_enter Tryz.func96,Tryz.ntmps96
      go_wp2
      go_ret
      exact ⟨zae HE.out,HB.out⟩
  by_cases e30:op=30
  · subst e30
    have hr:=HRR.out
    unfold argP at hr
    rw [if_neg (show ¬ ((30:Int)=1) by decide),if_neg (show ¬ ((30:Int)=2) by decide),if_pos rfl] at hr
    rcases (show a<0∨(0≤a∧a<ins.length)∨(0≤a∧¬ a<ins.length) by omega) with ha | ⟨ha,ha'⟩ | ⟨ha,ha'⟩
    · have hd:decide (0≤a)=false:=by simp;omega
      have HE:=Hi (show false=r by rw [← hr];simp;omega)
      clear hr
      go_enter Tryz.func96,Tryz.ntmps96
      go_upto_region 7 with fail
      go_region
      go_wp2
      go_ret
      exact ⟨zae HE.out,zad HB.out⟩
    · have HE:=Hi (show true=r by rw [← hr];simp;omega)
      clear hr
      go_enter Tryz.func96,Tryz.ntmps96
      go_upto_region 7 with fail
      go_region
      go_wp2
      go_ret
      exact ⟨zae HE.out,zad HB.out⟩
    · have HE:=Hi (show false=r by rw [← hr];simp;omega)
      clear hr
      go_enter Tryz.func96,Tryz.ntmps96
      go_upto_region 7 with fail
      go_region
      go_wp2
      go_ret
      exact ⟨zae HE.out,zad HB.out⟩
  by_cases e31:op=31
  · subst e31
    have hr:=HRR.out
    unfold argP at hr
    rw [if_neg (show ¬ ((31:Int)=1) by decide),if_neg (show ¬ ((31:Int)=2) by decide),if_neg (show ¬ ((31:Int)=30) by decide),if_pos rfl] at hr
    rcases (show a<0∨(0≤a∧a<rls.length)∨(0≤a∧¬ a<rls.length) by omega) with ha | ⟨ha,ha'⟩ | ⟨ha,ha'⟩
    · have hd:decide (0≤a)=false:=by simp;omega
      have HE:=Hi (show false=r by rw [← hr];simp;omega)
      clear hr
      go_enter Tryz.func96,Tryz.ntmps96
      go_upto_region 9 with fail
      go_region
      go_wp2
      go_ret
      exact ⟨zae HE.out,zad HB.out⟩
    · have HE:=Hi (show true=r by rw [← hr];simp;omega)
      clear hr
      go_enter Tryz.func96,Tryz.ntmps96
      go_upto_region 9 with fail
      go_region
      go_wp2
      go_ret
      exact ⟨zae HE.out,zad HB.out⟩
    · have HE:=Hi (show false=r by rw [← hr];simp;omega)
      clear hr
      go_enter Tryz.func96,Tryz.ntmps96
      go_upto_region 9 with fail
      go_region
      go_wp2
      go_ret
      exact ⟨zae HE.out,zad HB.out⟩
  by_cases e32:op=32
  · subst e32
    have hr:=HRR.out
    unfold argP at hr
    rw [if_neg (show ¬ ((32:Int)=1) by decide),if_neg (show ¬ ((32:Int)=2) by decide),if_neg (show ¬ ((32:Int)=30) by decide),if_neg (show ¬ ((32:Int)=31) by decide),if_pos rfl] at hr
    by_cases hs:a=stored
    · subst hs
      have hse:((stored:Int) == (stored:Int))=true:=by simp
      by_cases ha':stored<rls.length
      · have HE:=Hi (show true=r by rw [← hr];simp;omega)
        have hd:(stored:Int)<(rls.length:Int):=by omega
        clear hr
        go_enter Tryz.func96,Tryz.ntmps96
        go_upto_region 11 with fail
        go_region
        go_wp2
        go_ret
        exact ⟨zae HE.out,zad HB.out⟩
      · have HE:=Hi (show false=r by rw [← hr];simp;omega)
        have hd:¬ (stored:Int)<(rls.length:Int):=by omega
        clear hr
        go_enter Tryz.func96,Tryz.ntmps96
        go_upto_region 11 with fail
        go_region
        go_wp2
        go_ret
        exact ⟨zae HE.out,zad HB.out⟩
    · have hse:(a == (stored:Int))=false:=by simpa using hs
      have HE:=Hi (show false=r by rw [← hr];simp;omega)
      clear hr
      go_enter Tryz.func96,Tryz.ntmps96
      go_upto_region 11 with fail
      go_region
      go_wp2
      go_ret
      exact ⟨zae HE.out,zad HB.out⟩
  have hop:4≤op∧op≤22:=by
    have:¬ (opnP op = -1):=by omega
    unfold opnP at this
    by_cases hb:5≤op∧op≤22
    · omega
    · rw [if_neg (by omega)] at this
      split at this
      · omega
      · split at this
        · omega
        · exact absurd rfl this
  obtain ⟨hop1,hop2⟩:=hop;have HK:=Hi (zeW op);have hr:=HRR.out;unfold argP at hr;dsimp only at hr;rw [if_neg e1,if_neg e2,if_neg e30,if_neg e31,if_neg e32] at hr;clear e1 e2 e30 e31 e32
  cases hkb:zaG op with
  | false =>
    rw [hkb] at HK hr;rw [if_pos rfl] at hr;clear hkb
    by_cases ha0:a=0
    · subst ha0
      have HE:=Hi (show true=r by rw [← hr];simp)
      clear hr
      go_enter Tryz.func96,Tryz.ntmps96
      go_wp2_with fail
      refine (HK.out _).mono ?_
      rintro e w5 ⟨rfl,rfl⟩
      go_wp2
      go_ret
      exact ⟨zae HE.out,HB.out⟩
    · have hd0:(a == 0)=false:=by simpa using ha0
      have HE:=Hi (show false=r by rw [← hr];simp [ha0])
      clear hr
      go_enter Tryz.func96,Tryz.ntmps96
      go_wp2_with fail
      refine (HK.out _).mono ?_
      rintro e w5 ⟨rfl,rfl⟩
      go_wp2
      go_ret
      exact ⟨zae HE.out,HB.out⟩
  | true =>
    rw [hkb] at HK hr;rw [if_neg (by decide)] at hr;have hk17:17≤op:=by unfold zaG at hkb;simp at hkb;omega
    clear hkb
    by_cases hs:a=used
    case neg =>
      have hse:(a != (used:Int))=true:=by simpa using hs
      have HE:=Hi (show false=r by rw [← hr];simp [hs]);clear hr;go_enter Tryz.func96,Tryz.ntmps96;go_wp2_with fail
      refine (HK.out _).mono ?_
      rintro e w5 ⟨rfl,rfl⟩
      go_upto_region 14 with fail
      go_region
      go_wp2;go_ret
      exact ⟨zae HE.out,zad HB.out⟩
    subst hs;have hse:((used:Int) != (used:Int))=false:=by simp
    by_cases hu:used<cells.length
    case neg =>
      have hd:¬ (used:Int)<(cells.length:Int):=by omega
      have hd2:(cells.length:Int)≤(used:Int):=by omega
      have HE:=Hi (show false=r by rw [← hr,List.getElem?_eq_none (by omega)];simp);clear hr;go_enter Tryz.func96,Tryz.ntmps96;go_wp2_with fail
      refine (HK.out _).mono ?_
      rintro e w5 ⟨rfl,rfl⟩
      go_upto_region 14 with fail
      go_region
      go_wp2;go_ret
      exact ⟨zae HE.out,zad HB.out⟩
    obtain ⟨b,o,cl,hA,hSb,hx,y0,y1⟩:=ceAt HR3.out hu;rw [hA] at p2;rw [hx] at hr;obtain ⟨lo,ln⟩:=cl;have hr':zgn ⟨op,(used:Int)⟩ ⟨lo,ln⟩=r:=by rw [← hr];simp
    unfold zgn at hr';dsimp only at y0 y1 hr';clear hr hx hA;have hd:decide ((cells.length:Int)≤(used:Int))=false:=by simp;omega
    have hbw:b<w.heap.size:=by omega
    obtain ⟨M,hM⟩:∃ M:Int,(if op=19∨op=20 then 500 else 0)=M:=⟨_,rfl⟩;rw [hM] at hr';have HM:=Hi hM;have HRR':=Hi hr';clear hM hr' HRR;have HB2:=Hi (zad (zad (HB.out.alloc (by rw [World.size_alloc];omega) (Obj.cells #[.int .i64 lo,.int .i64 ln] 89))));clear HB;have hcs:(lo≠op)∨(lo=op∧ln<0)∨(lo=op∧0≤ln∧ln≤M)∨(lo=op∧0≤ln∧M<ln):=by omega
    have hts:op=19∨op=20∨(op≠19∧op≠20):=by omega
    rcases hts with rfl | rfl | ⟨t19,t20⟩
    case inl =>
      obtain rfl:500=M:=HM.out
      rcases hcs with hl | ⟨rfl,hl⟩ | ⟨rfl,hl,hl'⟩ | ⟨rfl,hl,hl'⟩
      · have HE:=Hi (show false=r by rw [← HRR'.out,eq_comm,decide_eq_false_iff_not];omega)
        have hle:(lo == 19)=false:=by simpa using hl
        go_enter Tryz.func96,Tryz.ntmps96
        go_wp2_with fail
        refine (HK.out _).mono ?_
        rintro e w5 ⟨rfl,rfl⟩
        go_upto_region 14 with fail
        go_region
        go_upto_region 16 with fail
        go_region
        go_wp2
        go_ret
        exact ⟨zae HE.out,HB2.out⟩
      · have HE:=Hi (show false=r by rw [← HRR'.out,eq_comm,decide_eq_false_iff_not];omega)
        have hle:decide (0≤ln)=false:=by simp;omega
        go_enter Tryz.func96,Tryz.ntmps96
        go_wp2_with fail
        refine (HK.out _).mono ?_
        rintro e w5 ⟨rfl,rfl⟩
        go_upto_region 14 with fail
        go_region
        go_upto_region 16 with fail
        go_region
        go_wp2
        go_ret
        exact ⟨zae HE.out,HB2.out⟩
      · have HE:=Hi (show true=r by rw [← HRR'.out,eq_comm,decide_eq_true_eq];omega)
        go_enter Tryz.func96,Tryz.ntmps96
        go_wp2_with fail
        refine (HK.out _).mono ?_
        rintro e w5 ⟨rfl,rfl⟩
        go_upto_region 14 with fail
        go_region
        go_upto_region 16 with fail
        go_region
        go_wp2
        go_ret
        exact ⟨zae HE.out,HB2.out⟩
      · have HE:=Hi (show false=r by rw [← HRR'.out,eq_comm,decide_eq_false_iff_not];omega)
        have hle:decide (ln≤500)=false:=by simp;omega
        go_enter Tryz.func96,Tryz.ntmps96
        go_wp2_with fail
        refine (HK.out _).mono ?_
        rintro e w5 ⟨rfl,rfl⟩
        go_upto_region 14 with fail
        go_region
        go_upto_region 16 with fail
        go_region
        go_wp2
        go_ret
        exact ⟨zae HE.out,HB2.out⟩
    case inr.inl =>
      obtain rfl:500=M:=HM.out
      rcases hcs with hl | ⟨rfl,hl⟩ | ⟨rfl,hl,hl'⟩ | ⟨rfl,hl,hl'⟩
      · have HE:=Hi (show false=r by rw [← HRR'.out,eq_comm,decide_eq_false_iff_not];omega)
        have hle:(lo == 20)=false:=by simpa using hl
        go_enter Tryz.func96,Tryz.ntmps96
        go_wp2_with fail
        refine (HK.out _).mono ?_
        rintro e w5 ⟨rfl,rfl⟩
        go_upto_region 14 with fail
        go_region
        go_upto_region 16 with fail
        go_region
        go_wp2
        go_ret
        exact ⟨zae HE.out,HB2.out⟩
      · have HE:=Hi (show false=r by rw [← HRR'.out,eq_comm,decide_eq_false_iff_not];omega)
        have hle:decide (0≤ln)=false:=by simp;omega
        go_enter Tryz.func96,Tryz.ntmps96
        go_wp2_with fail
        refine (HK.out _).mono ?_
        rintro e w5 ⟨rfl,rfl⟩
        go_upto_region 14 with fail
        go_region
        go_upto_region 16 with fail
        go_region
        go_wp2
        go_ret
        exact ⟨zae HE.out,HB2.out⟩
      · have HE:=Hi (show true=r by rw [← HRR'.out,eq_comm,decide_eq_true_eq];omega)
        go_enter Tryz.func96,Tryz.ntmps96
        go_wp2_with fail
        refine (HK.out _).mono ?_
        rintro e w5 ⟨rfl,rfl⟩
        go_upto_region 14 with fail
        go_region
        go_upto_region 16 with fail
        go_region
        go_wp2
        go_ret
        exact ⟨zae HE.out,HB2.out⟩
      · have HE:=Hi (show false=r by rw [← HRR'.out,eq_comm,decide_eq_false_iff_not];omega)
        have hle:decide (ln≤500)=false:=by simp;omega
        go_enter Tryz.func96,Tryz.ntmps96
        go_wp2_with fail
        refine (HK.out _).mono ?_
        rintro e w5 ⟨rfl,rfl⟩
        go_upto_region 14 with fail
        go_region
        go_upto_region 16 with fail
        go_region
        go_wp2
        go_ret
        exact ⟨zae HE.out,HB2.out⟩
    case inr.inr =>
      obtain rfl:0=M:=by rw [← HM.out,if_neg (by omega)]
      have g19:(op == 19)=false:=by simpa using t19
      have g20:(op == 20)=false:=by simpa using t20
      clear t19 t20
      rcases hcs with hl | ⟨rfl,hl⟩ | ⟨rfl,hl,hl'⟩ | ⟨rfl,hl,hl'⟩
      · have HE:=Hi (show false=r by rw [← HRR'.out,eq_comm,decide_eq_false_iff_not];omega)
        have hle:(lo == op)=false:=by simpa using hl
        clear hl
        go_enter Tryz.func96,Tryz.ntmps96
        go_wp2_with fail
        refine (HK.out _).mono ?_
        rintro e w5 ⟨rfl,rfl⟩
        go_upto_region 14 with fail
        go_region
        go_upto_region 16 with fail
        go_region
        go_wp2
        go_ret
        exact ⟨zae HE.out,HB2.out⟩
      · have HE:=Hi (show false=r by rw [← HRR'.out,eq_comm,decide_eq_false_iff_not];omega)
        have hle:decide (0≤ln)=false:=by simp;omega
        go_enter Tryz.func96,Tryz.ntmps96
        go_wp2_with fail
        refine (HK.out _).mono ?_
        rintro e w5 ⟨rfl,rfl⟩
        go_upto_region 14 with fail
        go_region
        go_upto_region 16 with fail
        go_region
        go_wp2
        go_ret
        exact ⟨zae HE.out,HB2.out⟩
      · have HE:=Hi (show true=r by rw [← HRR'.out,eq_comm,decide_eq_true_eq];omega)
        go_enter Tryz.func96,Tryz.ntmps96
        go_wp2_with fail
        refine (HK.out _).mono ?_
        rintro e w5 ⟨rfl,rfl⟩
        go_upto_region 14 with fail
        go_region
        go_upto_region 16 with fail
        go_region
        go_wp2
        go_ret
        exact ⟨zae HE.out,HB2.out⟩
      · have HE:=Hi (show false=r by rw [← HRR'.out,eq_comm,decide_eq_false_iff_not];omega)
        have hle:decide (ln≤0)=false:=by simp;omega
        go_enter Tryz.func96,Tryz.ntmps96
        go_wp2_with fail
        refine (HK.out _).mono ?_
        rintro e w5 ⟨rfl,rfl⟩
        go_upto_region 14 with fail
        go_region
        go_upto_region 16 with fail
        go_region
        go_wp2
        go_ret
        exact ⟨zae HE.out,HB2.out⟩
end Go.Proofs.YtcikenlflcofbaaGreatDoor
