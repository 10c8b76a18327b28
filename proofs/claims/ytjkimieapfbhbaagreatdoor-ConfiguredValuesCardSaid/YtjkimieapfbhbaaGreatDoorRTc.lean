/-
 The reference's tests of a relay: zones that its scheme lacks; too many elements.
-/
import Derived.Test.YtjkimieapfbhbaaGreatDoorKVd
set_option maxRecDepth 100000
set_option maxHeartbeats 8000000
namespace Go.Proofs.YtjkimieapfbhbaaGreatDoor
open Go.RowKit
theorem zfQ (nm:ByteArray) (k:Int) (n:NumM) (c49 c50 c51 c52:Value) (cs:List Value) (hcs:cs=zbd nm k n c49 c50 c51 c52) (w:World):Calls Tryz.prog 59 #[.agg cs.toArray] w (NoSays (zek n) w):=by
 have q3:=rq w hcs 3 rfl;have q4:=rq w hcs 4 rfl;have q9:=rq w hcs 9 rfl;have q10:=rq w hcs 10 rfl;have q15:=rq w hcs 15 rfl;have q16:=rq w hcs 16 rfl;have q24:=rq w hcs 24 rfl;have hb:=zaa w (Obj.cells cs.toArray 60);clear hcs
 have hs:n.scheme=1∨n.scheme=2∨n.scheme=3∨((n.scheme == 1)=false∧(n.scheme == 2)=false∧(n.scheme == 3)=false):=by
  simp only [beq_eq_false_iff_ne];omega
 rcases hs with hs | hs | hs | ⟨hs1,hs2,hs3⟩
 all_goals
  go_enter Tryz.func59,Tryz.ntmps59;go_wp2
  all_goals go_ret
  all_goals first
   | exact NoSays.yes hb
   | exact NoSays.of hb fun hz=>(by unfold zek;clear q3 q4 q9 q10 q15 q16 q24 hb;simp_all)
   | exact NoSays.of hb fun hz=>(by unfold zek;clear q3 q4 q9 q10 q15 q16 q24 hb;simp at *;omega)
theorem zi6 (cs:List Value) (r:RelayM) (B:Nat) (w:World) (hB:B≤w.heap.size) (h:RelayC w B cs r) :
 Calls Tryz.prog 60 #[.agg cs.toArray] w (NoSays (CountF r) w):=by
 obtain ⟨c49,h49,A1,k1,e1,l1,m1,-⟩:=h.rules;obtain ⟨c50,h50,A2,k2,e2,l2,m2,R2⟩:=h.sets;obtain ⟨c51,h51,A3,k3,e3,l3,m3,-⟩:=h.pubs;obtain ⟨c52,h52,A4,k4,e4,l4,m4,-⟩:=h.subs
 cases e1;cases e2;cases e3;cases e4
 clear h;unfold maxLen at m1 m2;have hb:=zaa w (Obj.cells cs.toArray 60);have q49:=zaI (w:=w) (t := 60) h49;have q50:=zaI (w:=w) (t := 60) h50;have q51:=zaI (w:=w) (t := 60) h51;have q52:=zaI (w:=w) (t := 60) h52;clear h49 h50 h51 h52
 by_cases b1:r.rules.length≤16∧r.sets.length≤4∧r.pubs.length≤4∧r.subs.length≤24
 case neg =>
  go_enter Tryz.func60,Tryz.ntmps60;go_wp2
  all_goals first
   | (go_ret;exact NoSays.yes hb)
   | (exfalso;omega)
   | (exfalso;simp at *;omega)
 obtain ⟨b1,b2,b3,b4⟩:=b1;have d1:decide ((16:Int)<(r.rules.length:Int))=false:=by simp;omega
 have d2:decide ((4:Int)<(r.sets.length:Int))=false:=by simp;omega
 have d3:decide ((4:Int)<(r.pubs.length:Int))=false:=by simp;omega
 have d4:decide ((24:Int)<(r.subs.length:Int))=false:=by simp;omega
 go_enter Tryz.func60,Tryz.ntmps60;go_wp2;generalize w.alloc (Obj.cells cs.toArray 60)=W at *
 go_loop [3] (fun i=>∃ k:Nat,k≤r.sets.length∧i = .int .i64 k∧∀ j y,j<k→r.sets[j]? = some y→1≤y.2.length∧y.2.length≤24) (fun i=>r.sets.length-(intOf i).toNat)
 case atStart=>exact ⟨0,Nat.zero_le _,rfl,fun j y h=>absurd h (Nat.not_lt_zero _)⟩
 case round =>
  obtain ⟨k,hk,rfl,hall⟩:=hrel;have Hall:=Hd hall;clear hall
  by_cases hlt:k<r.sets.length
  · obtain ⟨b,o,ds,x,rfl,hbB,hx,-,⟨c,rfl,-,A5,k5,e5,l5,m5,-⟩,hat⟩:=(R2.mono SetC.mono (Nat.le_refl _) (hb.mono hB)).at_ hlt
    cases e5
    have hc0:W.cell? ⟨b,o+k*2+1,none⟩=some (.slice A5 x.2.length k5):=hat 1 _ rfl
    have hb':b<W.heap.size:=by have:=hb.size;omega
    have HX:=Hd hx
    clear hx R2 hat
    by_cases b5:1≤x.2.length∧x.2.length≤24
    · have d5:decide ((x.2.length:Int)<1)=false:=by simp;omega
      have d6:decide ((24:Int)<(x.2.length:Int))=false:=by simp;omega
      go_wp2
      try go_quiet (fail)
      try go_wp2
      go_round
      case rel=>exact ⟨k+1,by omega,by go_num,zcC Hall.out HX.out b5⟩
      case measure=>simp [intOf];omega
    · have hor:(x.2.length:Int)<1∨(¬ (x.2.length:Int)<1∧(24:Int)<(x.2.length:Int)):=by omega
      rcases hor with hor | ⟨hn,hor⟩
      all_goals
       go_wp2
       try go_quiet (fail)
       try go_wp2
       go_ret
       exact NoSays.yes hb
  · obtain rfl:k=r.sets.length:=by omega
    go_wp2
    go_ret
    exact NoSays.of hb fun _=>⟨b1,b2,b3,b4,fun k d hk=>Hall.out k d (List.getElem?_eq_some_iff.1 hk).1 hk⟩
end Go.Proofs.YtjkimieapfbhbaaGreatDoor
