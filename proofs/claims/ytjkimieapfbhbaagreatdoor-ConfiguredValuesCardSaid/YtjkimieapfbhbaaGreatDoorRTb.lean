/-
 The reference's test of the distance zones.
-/
import Derived.Test.YtjkimieapfbhbaaGreatDoorKVd
set_option maxRecDepth 100000
set_option maxHeartbeats 8000000
namespace Go.Proofs.YtjkimieapfbhbaaGreatDoor
open Go.RowKit
attribute [local go_sem high] eqE eqC eqZ eqZs
def NumM.zone (n:NumM):Nat→ZoneM
 | 0=>n.z0
 | 1=>n.z1
 | _=>n.z2
def NumM.anyOn (n:NumM):Nat→Bool
 | 0=>false
 | k+1=>n.anyOn k || (n.zone k).on
def ZnR (B:Nat) (W:World) (n:NumM) (any i:Value) (wr:World):Prop:=∃ k:Nat,k≤3∧i = .int .i64 k∧any = .bool (n.anyOn k)∧(∀ j,j<k→(n.zone j).Fits)∧Below B W wr
theorem zdX {n:NumM} {k:Nat} (h:∀ j,j<k→(n.zone j).Fits) (hz:(n.zone k).Fits):∀ j,j<k+1→(n.zone j).Fits:=by
 intro j hj
 rcases Nat.lt_succ_iff_lt_or_eq.1 hj with h' | rfl
 · exact h j h'
 · exact hz
theorem zoff {z:ZoneM} (h0:z.on=false) (h1:¬ z.fw=true) (h2:z.x=0) (h3:z.rt=0) (h4:z.lf=0) (h5:z.dl=0):z.Fits := .inl ⟨h0,h0,by simpa using h1,h2,h3,h4,h5⟩
theorem zon {z:ZoneM} (h0:z.on=true) (h1:inB z.x 1 4000=true) (h2:inB z.rt 0 4000=true) (h3:inB z.lf 0 4000=true) (h4:(!inB z.dl 0 500)=false):z.Fits := .inr ⟨h0,zaF.1 h1,zaF.1 h2,zaF.1 h3,zaF.1 (by simpa using h4)⟩
theorem any_no {n:NumM} (hn:(n.z0.on || n.z1.on || n.z2.on)=false) (h1:n.mn=0) (h2:n.kre=0) (h3:(n.kim == 0)=true):(n.z0.on=false∧n.z1.on=false∧n.z2.on=false∧n.mn=0∧n.kre=0∧n.kim=0) ∨
 ((n.z0.on=true∨n.z1.on=true∨n.z2.on=true)∧(1≤n.mn∧n.mn≤16383)∧(-200≤n.kre∧n.kre≤200)∧(-200≤n.kim∧n.kim≤200)):=by
 simp only [Bool.or_eq_false_iff] at hn;exact .inl ⟨hn.1.1,hn.1.2,hn.2,h1,h2,by simpa using h3⟩
theorem zl5 {n:NumM} (hn:(n.z0.on || n.z1.on || n.z2.on)=true) (h1:inB n.mn 1 16383=true) (h2:inB n.kre (-200) 200=true) (h3:inB n.kim (-200) 200=true):(n.z0.on=false∧n.z1.on=false∧n.z2.on=false∧n.mn=0∧n.kre=0∧n.kim=0) ∨
 ((n.z0.on=true∨n.z1.on=true∨n.z2.on=true)∧(1≤n.mn∧n.mn≤16383)∧(-200≤n.kre∧n.kre≤200)∧(-200≤n.kim∧n.kim≤200)):=by
 simp only [Bool.or_eq_true,or_assoc] at hn;exact .inr ⟨hn,zaF.1 h1,zaF.1 h2,zaF.1 h3⟩
theorem zhP (nm:ByteArray) (k:Int) (n:NumM) (c49 c50 c51 c52:Value) (cs:List Value) (hcs:cs=zbd nm k n c49 c50 c51 c52) (w:World):Calls Tryz.prog 84 #[.agg cs.toArray] w (BoolSays (ZonesF n) w):=by
 have q3:=rq w hcs 3 rfl;have q4:=rq w hcs 4 rfl;have q5:=rq w hcs 5 rfl;have q6:=rq w hcs 6 rfl;have q7:=rq w hcs 7 rfl;have q8:=rq w hcs 8 rfl;have q9:=rq w hcs 9 rfl;have q10:=rq w hcs 10 rfl;have q11:=rq w hcs 11 rfl;have q12:=rq w hcs 12 rfl;have q13:=rq w hcs 13 rfl;have q14:=rq w hcs 14 rfl;have q15:=rq w hcs 15 rfl;have q16:=rq w hcs 16 rfl;have q17:=rq w hcs 17 rfl;have q18:=rq w hcs 18 rfl;have q19:=rq w hcs 19 rfl;have q20:=rq w hcs 20 rfl;have q21:=rq w hcs 21 rfl;have q22:=rq w hcs 22 rfl;have q23:=rq w hcs 23 rfl;have hb:=zaa w (Obj.cells cs.toArray 60);have hg:w.heap.size<(w.alloc (Obj.cells cs.toArray 60)).heap.size:=by simp
 clear hcs;go_enter Tryz.func84,Tryz.ntmps84;go_wp2;generalize w.alloc (Obj.cells cs.toArray 60)=W at *
 go_loopw [3,4] (ZnR W.heap.size W n) (fun _ i _=>3-(intOf i).toNat)
 case atStart=>exact ⟨0,Nat.zero_le _,rfl,rfl,fun _ h=>absurd h (Nat.not_lt_zero _),Below.refl _ _⟩
 case round =>
  obtain ⟨k,hk,rfl,rfl,hz,hbel⟩:=hrel;have HZ:=Hd hz;have hw:=Below.then hb hbel
  have hs:=hbel.size;have gw:w.heap.size<wr.heap.size:=by omega
  clear hz;obtain ⟨hc,hf⟩:=zcv hbel
  by_cases hlt:k<3
  · have h3:k=0∨k=1∨k=2:=by omega
    rcases h3 with rfl | rfl | rfl
    · have ha1:n.anyOn 1=(n.anyOn 0 || n.z0.on):=rfl
      have HA1:=Hd ha1
      clear ha1
      cases ho:n.z0.on
      all_goals
       go_wp2_with (first | (go_at_call 85;refine (zaJ _ _ _ _).mono ?_;rintro e w' ⟨rfl,rfl⟩))
       all_goals first
        | (go_ret;exact BoolSays.no (Below.then hw (zaa _ _)))
        | (have hfz:(n.zone 0).Fits:=(by show n.z0.Fits;first | exact zoff ho (by assumption) (by assumption) (by assumption) (by assumption) (by assumption) | exact zon ho (by assumption) (by assumption) (by assumption) (by assumption))
           go_roundw
           case rel=>exact ⟨1,by omega,by go_num,by rw [HA1.out,ho];simp,zdX HZ.out hfz,hbel.alloc hs _⟩
           case measure=>simp [intOf])
    · have ha1:n.anyOn 2=(n.anyOn 1 || n.z1.on):=rfl
      have HA1:=Hd ha1
      clear ha1
      cases ho:n.z1.on
      all_goals
       go_wp2_with (first | (go_at_call 85;refine (zaJ _ _ _ _).mono ?_;rintro e w' ⟨rfl,rfl⟩))
       all_goals first
        | (go_ret;exact BoolSays.no (Below.then hw (zaa _ _)))
        | (have hfz:(n.zone 1).Fits:=(by show n.z1.Fits;first | exact zoff ho (by assumption) (by assumption) (by assumption) (by assumption) (by assumption) | exact zon ho (by assumption) (by assumption) (by assumption) (by assumption))
           go_roundw
           case rel=>exact ⟨2,by omega,by go_num,by rw [HA1.out,ho];simp,zdX HZ.out hfz,hbel.alloc hs _⟩
           case measure=>simp [intOf])
    · have ha1:n.anyOn 3=(n.anyOn 2 || n.z2.on):=rfl
      have HA1:=Hd ha1
      clear ha1
      cases ho:n.z2.on
      all_goals
       go_wp2_with (first | (go_at_call 85;refine (zaJ _ _ _ _).mono ?_;rintro e w' ⟨rfl,rfl⟩))
       all_goals first
        | (go_ret;exact BoolSays.no (Below.then hw (zaa _ _)))
        | (have hfz:(n.zone 2).Fits:=(by show n.z2.Fits;first | exact zoff ho (by assumption) (by assumption) (by assumption) (by assumption) (by assumption) | exact zon ho (by assumption) (by assumption) (by assumption) (by assumption))
           go_roundw
           case rel=>exact ⟨3,by omega,by go_num,by rw [HA1.out,ho];simp,zdX HZ.out hfz,hbel.alloc hs _⟩
           case measure=>simp [intOf])
  · obtain rfl:k=3:=by omega
    have hA:n.anyOn 3=(n.z0.on || n.z1.on || n.z2.on):=by simp [NumM.anyOn,NumM.zone]
    have f0:n.z0.Fits:=HZ.out 0 (by decide)
    have f1:n.z1.Fits:=HZ.out 1 (by decide)
    have f2:n.z2.Fits:=HZ.out 2 (by decide)
    have HF:=Hd (And.intro f0 (And.intro f1 f2))
    have HA:=Hd hA
    clear f0 f1 f2 hA
    cases ha:n.anyOn 3
    all_goals
     have HN:=Hd (HA.out.symm.trans ha)
     clear ha
     go_wp2_with (first | (go_at_call 85;refine (zaJ _ _ _ _).mono ?_;rintro e w' ⟨rfl,rfl⟩))
     all_goals go_ret
     all_goals first
      | exact BoolSays.no hw
      | exact BoolSays.of hw fun hb=>⟨HF.out.1,HF.out.2.1,HF.out.2.2,by first | exact any_no HN.out (by assumption) (by assumption) hb | exact zl5 HN.out (by assumption) (by assumption) hb⟩
end Go.Proofs.YtjkimieapfbhbaaGreatDoor
