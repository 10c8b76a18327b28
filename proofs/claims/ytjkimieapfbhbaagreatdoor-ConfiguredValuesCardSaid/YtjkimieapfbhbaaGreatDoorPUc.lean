/-
 The program's check of a relay's zones.
-/
import Derived.Test.YtjkimieapfbhbaaGreatDoorKPUb
import Derived.Test.YtjkimieapfbhbaaGreatDoorRTb
set_option maxRecDepth 100000
set_option maxHeartbeats 8000000
open Go.Value renaming int → g, bool → l, agg → m
open Go.IntKind renaming i64 → j
open Go.Proofs.Tryz renaming prog → o
namespace Go.Proofs.YtjkimieapfbhbaaGreatDoor
open Go.RowKit
def ZnP (B:Nat) (W:World) (n:NumM) (a i:Value) (wr:World):Prop:=∃ k:Nat,k≤3∧a = l (n.anyOn k)∧i = g j k∧Below B W wr
theorem zdN (nm:ByteArray) (k:Int) (n:NumM) (c49 c50 c51 c52:Value) (cs:List Value) (hcs:cs=zbd nm k n c49 c50 c51 c52) (h:ZonesF n) (w:World):Calls o 136 #[.agg cs.toArray] w (zaG true w):=by
 have q3:=rq w hcs 3 rfl;have q4:=rq w hcs 4 rfl;have q5:=rq w hcs 5 rfl;have q6:=rq w hcs 6 rfl;have q7:=rq w hcs 7 rfl;have q8:=rq w hcs 8 rfl;have q9:=rq w hcs 9 rfl;have q10:=rq w hcs 10 rfl;have q11:=rq w hcs 11 rfl;have q12:=rq w hcs 12 rfl;have q13:=rq w hcs 13 rfl;have q14:=rq w hcs 14 rfl;have q15:=rq w hcs 15 rfl;have q16:=rq w hcs 16 rfl;have q17:=rq w hcs 17 rfl;have q18:=rq w hcs 18 rfl;have q19:=rq w hcs 19 rfl;have q20:=rq w hcs 20 rfl;have q21:=rq w hcs 21 rfl;have q22:=rq w hcs 22 rfl;have q23:=rq w hcs 23 rfl;have hb:=zaa w (Obj.cells cs.toArray 60);have hg:w.heap.size<(w.alloc (Obj.cells cs.toArray 60)).heap.size:=by simp
 have HF0:=Hd h.z0;have HF1:=Hd h.z1;have HF2:=Hd h.z2
 have hfin:(n.anyOn 3=false∧n.mn=0∧n.kre=0∧n.kim=0)∨(n.anyOn 3=true∧(1≤n.mn∧n.mn≤16383)∧(-200≤n.kre∧n.kre≤200)∧(-200≤n.kim∧n.kim≤200)):=by
  rcases h.any with ⟨a,b,c,d,e,f⟩ | ⟨a,b,c,d⟩
  · exact .inl ⟨by simp [NumM.anyOn,NumM.zone,a,b,c],d,e,f⟩
  · refine .inr ⟨?_,b,c,d⟩
    rcases a with a | a | a <;> simp [NumM.anyOn,NumM.zone,a]
 have HFIN:=Hd hfin;clear hcs h hfin;have ix0:∀ (w:World) (a0 a1 a2 a3 a4 a5 a6 a7 a8 a9 a10 a11 a12 a13 a14 a15 a16 a17:Value),(Instr.index 50 (m #[a0,a1,a2,a3,a4,a5,a6,a7,a8,a9,a10,a11,a12,a13,a14,a15,a16,a17]) (g j 0)).run o w = .ok (m #[a0,a1,a2,a3,a4,a5]) w:=fun _ _ _ _ _ _ _ _ _ _ _ _ _ _ _ _ _ _ _  => by kernel_rfl
 have ix1:∀ (w:World) (a0 a1 a2 a3 a4 a5 a6 a7 a8 a9 a10 a11 a12 a13 a14 a15 a16 a17:Value),(Instr.index 50 (m #[a0,a1,a2,a3,a4,a5,a6,a7,a8,a9,a10,a11,a12,a13,a14,a15,a16,a17]) (g j 1)).run o w = .ok (m #[a6,a7,a8,a9,a10,a11]) w:=fun _ _ _ _ _ _ _ _ _ _ _ _ _ _ _ _ _ _ _  => by kernel_rfl
 have ix2:∀ (w:World) (a0 a1 a2 a3 a4 a5 a6 a7 a8 a9 a10 a11 a12 a13 a14 a15 a16 a17:Value),(Instr.index 50 (m #[a0,a1,a2,a3,a4,a5,a6,a7,a8,a9,a10,a11,a12,a13,a14,a15,a16,a17]) (g j 2)).run o w = .ok (m #[a12,a13,a14,a15,a16,a17]) w:=fun _ _ _ _ _ _ _ _ _ _ _ _ _ _ _ _ _ _ _  => by kernel_rfl
 go_enter Tryz.func136,Tryz.ntmps136;go_wp2;generalize w.alloc (Obj.cells cs.toArray 60)=W at *;generalize hV:Value.agg #[l n.z0.on,l n.z0.fw,g j n.z0.x,g j n.z0.rt,g j n.z0.lf,g j n.z0.dl,l n.z1.on,l n.z1.fw,g j n.z1.x,g j n.z1.rt,g j n.z1.lf,g j n.z1.dl,l n.z2.on,l n.z2.fw,g j n.z2.x,g j n.z2.rt,g j n.z2.lf,g j n.z2.dl]=V;have jx0:∀ w:World,(Instr.index 50 V (g j 0)).run o w = .ok (m #[l n.z0.on,l n.z0.fw,g j n.z0.x,g j n.z0.rt,g j n.z0.lf,g j n.z0.dl]) w:=fun w=>by rw [← hV];exact ix0 w _ _ _ _ _ _ _ _ _ _ _ _ _ _ _ _ _ _
 have jx1:∀ w:World,(Instr.index 50 V (g j 1)).run o w = .ok (m #[l n.z1.on,l n.z1.fw,g j n.z1.x,g j n.z1.rt,g j n.z1.lf,g j n.z1.dl]) w:=fun w=>by rw [← hV];exact ix1 w _ _ _ _ _ _ _ _ _ _ _ _ _ _ _ _ _ _
 have jx2:∀ w:World,(Instr.index 50 V (g j 2)).run o w = .ok (m #[l n.z2.on,l n.z2.fw,g j n.z2.x,g j n.z2.rt,g j n.z2.lf,g j n.z2.dl]) w:=fun w=>by rw [← hV];exact ix2 w _ _ _ _ _ _ _ _ _ _ _ _ _ _ _ _ _ _
 clear hV ix0 ix1 ix2
 go_loopw [3,8] (ZnP W.heap.size W n) (fun _ i _=>3-(intOf i).toNat)
 case atStart=>exact ⟨0,Nat.zero_le _,rfl,rfl,Below.refl _ _⟩
 case round =>
  obtain ⟨k,hk,rfl,rfl,hbel⟩:=hrel;have hw:=Below.then hb hbel
  have hs:=hbel.size;have gw:w.heap.size<wr.heap.size:=by omega
  obtain ⟨hc,hf⟩:=zcv hbel
  by_cases hlt:k<3
  · have h3:k=0∨k=1∨k=2:=by omega
    rcases h3 with rfl | rfl | rfl
    · have ha1:n.anyOn 1=(n.anyOn 0 || n.z0.on):=rfl
      have HA1:=Hd ha1
      clear ha1
      rcases HF0.out with ⟨-,e1,e2,e3,e4,e5,e6⟩ | ⟨e0,⟨e1,e2⟩,⟨e3,e4⟩,⟨e5,e6⟩,e7,e8⟩
      · go_wp2
        go_roundw
        case rel=>exact ⟨1,by omega,by rw [HA1.out,e1];simp,by go_num,hbel.alloc hs _⟩
        case measure=>simp [intOf]
      · go_wp2_with (first | (go_at_call 157;(with_reducible refine (za9 _ _ _ ⟨by assumption,by assumption⟩ _).mono ?_);rintro e w' ⟨rfl,rfl⟩))
        go_roundw
        case rel=>exact ⟨1,by omega,by rw [HA1.out,e0];simp,by go_num,hbel.alloc hs _⟩
        case measure=>simp [intOf]
    · have ha1:n.anyOn 2=(n.anyOn 1 || n.z1.on):=rfl
      have HA1:=Hd ha1
      clear ha1
      rcases HF1.out with ⟨-,e1,e2,e3,e4,e5,e6⟩ | ⟨e0,⟨e1,e2⟩,⟨e3,e4⟩,⟨e5,e6⟩,e7,e8⟩
      · go_wp2
        go_roundw
        case rel=>exact ⟨2,by omega,by rw [HA1.out,e1];simp,by go_num,hbel.alloc hs _⟩
        case measure=>simp [intOf]
      · go_wp2_with (first | (go_at_call 157;(with_reducible refine (za9 _ _ _ ⟨by assumption,by assumption⟩ _).mono ?_);rintro e w' ⟨rfl,rfl⟩))
        go_roundw
        case rel=>exact ⟨2,by omega,by rw [HA1.out,e0];simp,by go_num,hbel.alloc hs _⟩
        case measure=>simp [intOf]
    · have ha1:n.anyOn 3=(n.anyOn 2 || n.z2.on):=rfl
      have HA1:=Hd ha1
      clear ha1
      rcases HF2.out with ⟨-,e1,e2,e3,e4,e5,e6⟩ | ⟨e0,⟨e1,e2⟩,⟨e3,e4⟩,⟨e5,e6⟩,e7,e8⟩
      · go_wp2
        go_roundw
        case rel=>exact ⟨3,by omega,by rw [HA1.out,e1];simp,by go_num,hbel.alloc hs _⟩
        case measure=>simp [intOf]
      · go_wp2_with (first | (go_at_call 157;(with_reducible refine (za9 _ _ _ ⟨by assumption,by assumption⟩ _).mono ?_);rintro e w' ⟨rfl,rfl⟩))
        go_roundw
        case rel=>exact ⟨3,by omega,by rw [HA1.out,e0];simp,by go_num,hbel.alloc hs _⟩
        case measure=>simp [intOf]
  · obtain rfl:k=3:=by omega
    rcases HFIN.out with ⟨e0,e1,e2,e3⟩ | ⟨e0,⟨e1,e2⟩,⟨e3,e4⟩,e5,e6⟩
    all_goals
     go_wp2_with (first | (go_at_call 157;(with_reducible refine (za9 _ _ _ ⟨by assumption,by assumption⟩ _).mono ?_);rintro e w' ⟨rfl,rfl⟩))
     go_ret
     exact ⟨rfl,hw⟩
end Go.Proofs.YtjkimieapfbhbaaGreatDoor
