/-
  ScanExamples: fixed cases.
-/
import Derived.Test.YtcikenlflcofbaaDoorStq
import Derived.Test.YtcikenlflcofbaaDoorOneP
namespace Go.Proofs.YtcikenlflcofbaaDoor
open Go.RowKit

def xLatPg : Pg := ⟨rIn, [[114]], [⟨21, 0⟩], [⟨30, 0⟩, ⟨30, 0⟩, ⟨4, 0⟩, ⟨21, 0⟩, ⟨32, 0⟩]⟩
def xSelPg : Pg := ⟨rIn, [[114]], [], [⟨31, 0⟩, ⟨4, 0⟩, ⟨32, 0⟩]⟩
def xFalPg : Pg := ⟨rIn, [[114]], [⟨18, 0⟩], [⟨30, 0⟩, ⟨18, 0⟩, ⟨32, 0⟩]⟩
theorem xHol : cmpP (rRl [104, 111, 108, 100, 40, 97, 44, 32, 50, 41]) rIn = (holPg 2, 0, 0) := by kernel_rfl
theorem xLat : cmpP (rRl [108, 97, 116, 99, 104, 40, 97, 44, 32, 110, 111, 116, 32, 97, 41]) rIn = (xLatPg, 0, 0) := by kernel_rfl
theorem xCnt : cmpP (rRl [99, 111, 117, 110, 116, 40, 97, 44, 32, 102, 97, 108, 115, 101, 41, 32, 61, 32, 50]) rIn = (cntPg 2, 0, 0) := by kernel_rfl
theorem xSel : cmpP (rRl [110, 111, 116, 32, 114]) rIn = (xSelPg, 0, 0) := by kernel_rfl
theorem xFal : cmpP (rRl [102, 97, 108, 108, 40, 97, 41]) rIn = (xFalPg, 0, 0) := by kernel_rfl
theorem xNil : cmpP [] [] = (pgNil, 0, 0) := by kernel_rfl
theorem xStpA : scanS pgNil ⟨[0], []⟩ [] = (mmNil, 20) := by kernel_rfl
theorem xStpB : scanS pgNil mmNil [1] = (mmNil, 1) := by kernel_rfl
theorem xRun0 : runS (risePg) (one [1, 1, 0, 1]) = (one [1, 0, 0, 1], 0) := by kernel_rfl
theorem xRun1 : runS (holPg 2) (one [1, 0, 0, 0]) = (one [1, 1, 1, 0], 0) := by kernel_rfl
theorem xRun2 : runS (xLatPg) (one [0, 1, 1, 0]) = (one [0, 1, 1, 0], 0) := by kernel_rfl
theorem xRun3 : runS (cntPg 2) (one [1, 0, 1, 1]) = (one [0, 0, 1, 1], 0) := by kernel_rfl
theorem xRun4 : runS (xSelPg) (one [0, 0, 0]) = (one [1, 0, 1], 0) := by kernel_rfl
theorem xRun5 : runS (xFalPg) (one [0, 1, 0, 0]) = (one [0, 0, 1, 0], 0) := by kernel_rfl
/-- runs over a literal. -/
theorem runs_lit (tx : List UInt8) (xa vs : List Int) (n : Nat) (cs : Array Value) {p : Pg} (hcs : cs.toList = xa.map (Value.int .i64)) (hn : xa.length = n) (hn2 : n ≤ 1000) (htx : tx.length ≤ maxLen) (hcp : cmpP (rRl tx) rIn = (p, 0, 0))
    (hrun : runS p (one xa) = (one vs, 0)) (hvl : vs.length = xa.length) (W : World) (hw : Lw W) :
    Calls Tryd.prog 20 #[.string ⟨tx.toArray⟩, .slice (some ⟨W.heap.size, 0, Option.none⟩) n n] (W.alloc (Obj.cells cs 3)) (RetRs vs (W.alloc (Obj.cells cs 3))) := by
  subst hn
  exact runs_any tx xa vs _ _ _ (hw.below (box_below W _)) htx (ints_box W xa cs hcs hn2) hn2 hcp hrun hvl
theorem same_lit (vs : List Int) (n : Nat) (cs : Array Value) (hcs : cs.toList = vs.map (Value.int .i64)) (hn : vs.length = n) (hn2 : n ≤ 1000) {A : Option Addr} {c : Nat} (W : World) (h : Rw IaC 1 W (Old W) A n vs) :
    Calls Tryd.prog 23 #[.slice A n c, .slice (some ⟨W.heap.size, 0, Option.none⟩) n n] (W.alloc (Obj.cells cs 3)) (RetB true (W.alloc (Obj.cells cs 3))) := by
  subst hn
  have hb := box_below W (Obj.cells cs 3)
  have := same28_any A (some ⟨W.heap.size, 0, Option.none⟩) c vs.length vs vs (W.alloc (Obj.cells cs 3)) (h.mono IaC.mono (fun b q => Nat.lt_of_lt_of_le q hb.size) (keepOn_below hb fun _ q => q)) (ints_box W vs cs hcs hn2) (by unfold maxLen; omega)
  rw [decide_eq_true rfl] at this
  exact this
theorem rw_next {W W' : World} {A : Option Addr} {n : Nat} {l : List Int} (h : Rw IaC 1 W (Old W) A n l) (hb : Below W.heap.size W W') : Rw IaC 1 W' (Old W') A n l :=
  h.mono IaC.mono (fun _ q => Nat.lt_of_lt_of_le q hb.size) (keepOn_below hb fun _ q => q)
theorem rw_new {W W' : World} {A : Option Addr} {n : Nat} {l : List Int} (h : Rw IaC 1 W' (New W W') A n l) : Rw IaC 1 W' (Old W') A n l :=
  h.mono IaC.mono (fun _ q => q.2) (KeepOn.refl _ _)
theorem lit_below {w W W' : World} {cs : Array Value} {t : TypeId} (h : Below w.heap.size w W) (hb : Below (W.alloc (Obj.cells cs t)).heap.size (W.alloc (Obj.cells cs t)) W') : Below w.heap.size w W' ∧ Below W.heap.size W W' :=
  have h1 := box_below W (Obj.cells cs t)
  have h2 := below_two h1 hb h1.size
  ⟨below_two h h2 h.size, h2⟩

set_option maxRecDepth 100000 in
set_option maxHeartbeats 8000000 in
theorem exa28_any (w : World) (hw : Lw w) : Calls Tryd.prog 9 #[] w (RetB true w) := by
  have HW := Lib.hid hw
  have HC0 := Lib.hid (fun (W : World) (h : Below w.heap.size w W) => runs_lit [114, 105, 115, 101, 40, 97, 41] [1, 1, 0, 1] [1, 0, 0, 1] 4 #[.int .i64 1, .int .i64 1, .int .i64 0, .int .i64 1] (p := risePg) rfl rfl (by decide) (by decide) rise_cmp xRun0 rfl W (hw.below h))
  have HC1 := Lib.hid (fun (W : World) (h : Below w.heap.size w W) => runs_lit [104, 111, 108, 100, 40, 97, 44, 32, 50, 41] [1, 0, 0, 0] [1, 1, 1, 0] 4 #[.int .i64 1, .int .i64 0, .int .i64 0, .int .i64 0] (p := holPg 2) rfl rfl (by decide) (by decide) xHol xRun1 rfl W (hw.below h))
  have HC2 := Lib.hid (fun (W : World) (h : Below w.heap.size w W) => runs_lit [108, 97, 116, 99, 104, 40, 97, 44, 32, 110, 111, 116, 32, 97, 41] [0, 1, 1, 0] [0, 1, 1, 0] 4 #[.int .i64 0, .int .i64 1, .int .i64 1, .int .i64 0] (p := xLatPg) rfl rfl (by decide) (by decide) xLat xRun2 rfl W (hw.below h))
  have HC3 := Lib.hid (fun (W : World) (h : Below w.heap.size w W) => runs_lit [99, 111, 117, 110, 116, 40, 97, 44, 32, 102, 97, 108, 115, 101, 41, 32, 61, 32, 50] [1, 0, 1, 1] [0, 0, 1, 1] 4 #[.int .i64 1, .int .i64 0, .int .i64 1, .int .i64 1] (p := cntPg 2) rfl rfl (by decide) (by decide) xCnt xRun3 rfl W (hw.below h))
  have HC4 := Lib.hid (fun (W : World) (h : Below w.heap.size w W) => runs_lit [110, 111, 116, 32, 114] [0, 0, 0] [1, 0, 1] 3 #[.int .i64 0, .int .i64 0, .int .i64 0] (p := xSelPg) rfl rfl (by decide) (by decide) xSel xRun4 rfl W (hw.below h))
  have HC5 := Lib.hid (fun (W : World) (h : Below w.heap.size w W) => runs_lit [102, 97, 108, 108, 40, 97, 41] [0, 1, 0, 0] [0, 0, 1, 0] 4 #[.int .i64 0, .int .i64 1, .int .i64 0, .int .i64 0] (p := xFalPg) rfl rfl (by decide) (by decide) xFal xRun5 rfl W (hw.below h))
  clear hw
  have B0 := Lib.hid (Below.refl w.heap.size w)
  go_enter Tryd.func9, Tryd.ntmps9
  go_wp2_with fail
  refine (HC0.out w B0.out).mono ?_
  rintro e w1 ⟨A0, c0, rfl, hc0, hm0, hr, hb⟩
  have B1 := Lib.hid (lit_below B0.out hb).1
  have N1 := Lib.hid (lit_below B0.out hb).2
  have R0 := Lib.hid (rw_new hr)
  clear hr hb HC0 hc0 hm0
  dsimp only [List.length_cons, List.length_nil, Nat.zero_add, Nat.reduceAdd]
  go_wp2_with fail
  refine (HC1.out w1 B1.out).mono ?_
  rintro e w2 ⟨A1, c1, rfl, hc1, hm1, hr, hb⟩
  have B2 := Lib.hid (lit_below B1.out hb).1
  have N2 := Lib.hid (lit_below B1.out hb).2
  have R0 := Lib.hid (rw_next R0.out N2.out)
  have R1 := Lib.hid (rw_new hr)
  clear hr hb HC1 hc1 hm1
  dsimp only [List.length_cons, List.length_nil, Nat.zero_add, Nat.reduceAdd]
  go_wp2_with fail
  refine (HC2.out w2 B2.out).mono ?_
  rintro e w3 ⟨A2, c2, rfl, hc2, hm2, hr, hb⟩
  have B3 := Lib.hid (lit_below B2.out hb).1
  have N3 := Lib.hid (lit_below B2.out hb).2
  have R0 := Lib.hid (rw_next R0.out N3.out)
  have R1 := Lib.hid (rw_next R1.out N3.out)
  have R2 := Lib.hid (rw_new hr)
  clear hr hb HC2 hc2 hm2
  dsimp only [List.length_cons, List.length_nil, Nat.zero_add, Nat.reduceAdd]
  go_wp2_with fail
  refine (HC3.out w3 B3.out).mono ?_
  rintro e w4 ⟨A3, c3, rfl, hc3, hm3, hr, hb⟩
  have B4 := Lib.hid (lit_below B3.out hb).1
  have N4 := Lib.hid (lit_below B3.out hb).2
  have R0 := Lib.hid (rw_next R0.out N4.out)
  have R1 := Lib.hid (rw_next R1.out N4.out)
  have R2 := Lib.hid (rw_next R2.out N4.out)
  have R3 := Lib.hid (rw_new hr)
  clear hr hb HC3 hc3 hm3
  dsimp only [List.length_cons, List.length_nil, Nat.zero_add, Nat.reduceAdd]
  go_wp2_with fail
  refine (HC4.out w4 B4.out).mono ?_
  rintro e w5 ⟨A4, c4, rfl, hc4, hm4, hr, hb⟩
  have B5 := Lib.hid (lit_below B4.out hb).1
  have N5 := Lib.hid (lit_below B4.out hb).2
  have R0 := Lib.hid (rw_next R0.out N5.out)
  have R1 := Lib.hid (rw_next R1.out N5.out)
  have R2 := Lib.hid (rw_next R2.out N5.out)
  have R3 := Lib.hid (rw_next R3.out N5.out)
  have R4 := Lib.hid (rw_new hr)
  clear hr hb HC4 hc4 hm4
  dsimp only [List.length_cons, List.length_nil, Nat.zero_add, Nat.reduceAdd]
  go_wp2_with fail
  refine (HC5.out w5 B5.out).mono ?_
  rintro e w6 ⟨A5, c5, rfl, hc5, hm5, hr, hb⟩
  have B6 := Lib.hid (lit_below B5.out hb).1
  have N6 := Lib.hid (lit_below B5.out hb).2
  have R0 := Lib.hid (rw_next R0.out N6.out)
  have R1 := Lib.hid (rw_next R1.out N6.out)
  have R2 := Lib.hid (rw_next R2.out N6.out)
  have R3 := Lib.hid (rw_next R3.out N6.out)
  have R4 := Lib.hid (rw_next R4.out N6.out)
  have R5 := Lib.hid (rw_new hr)
  clear hr hb HC5 hc5 hm5
  dsimp only [List.length_cons, List.length_nil, Nat.zero_add, Nat.reduceAdd]
  obtain ⟨P, hP⟩ : ∃ P, pgNil = P := ⟨_, rfl⟩
  have HP := Lib.hid hP
  have hnil := xNil
  rw [hP] at hnil
  have HNIL := Lib.hid hnil
  have HSA := Lib.hid (show scanS P ⟨[0], []⟩ [] = (mmNil, 20) by rw [← hP]; exact xStpA)
  have HSB := Lib.hid (show scanS P mmNil [1] = (mmNil, 1) by rw [← hP]; exact xStpB)
  clear hP hnil
  have HCM := Lib.hid (compile_any Option.none 0 [] Option.none 0 [] w6 (HW.out.below B6.out) (Nat.le_refl _) (Nat.zero_le _) Rw.nil (Nat.le_refl _) (Nat.zero_le _) Rw.nil)
  go_wp2_with fail
  refine HCM.out.mono ?_
  intro e w7 hret
  obtain ⟨A10, c10, A11, c11, A12, c12, A13, c13, rfl, hpg, hb⟩ := hret.of HNIL.out
  have hbx := box_below w7 (Obj.cells (pgC P ⟨A10, c10, A11, c11, A12, c12, A13, c13⟩) 32)
  have HPX := Lib.hid (heap_alloc_new w7 (Obj.cells (pgC P ⟨A10, c10, A11, c11, A12, c12, A13, c13⟩) 32))
  have hs7 := World.size_alloc w7 (Obj.cells (pgC P ⟨A10, c10, A11, c11, A12, c12, A13, c13⟩) 32)
  have N7 := Lib.hid (below_two hb hbx hb.size)
  have HPG := Lib.hid (hpg.mono (S' := fun b => b < w7.heap.size) (fun b q => q.2) (keepOn_below hbx fun b q => q.2))
  have HS7 := Lib.hid hs7
  clear hret hpg hb hbx hs7 HCM
  go_upto_region 8 with fail
  generalize w7.alloc (Obj.cells (pgC P ⟨A10, c10, A11, c11, A12, c12, A13, c13⟩) 32) = W8 at *
  have hs7 := HS7.out
  have hpx := HPX.out
  have q0 : W8.cell? ⟨w7.heap.size, 0, Option.none⟩ = some (.slice A10 P.ins.length c10) := by simp [World.cell?, hpx]
  have q1 : W8.cell? ⟨w7.heap.size, 1, Option.none⟩ = some (.slice A11 P.rls.length c11) := by simp [World.cell?, hpx]
  have q2 : W8.cell? ⟨w7.heap.size, 2, Option.none⟩ = some (.slice A12 P.cells.length c12) := by simp [World.cell?, hpx]
  have q3 : W8.cell? ⟨w7.heap.size, 3, Option.none⟩ = some (.slice A13 P.code.length c13) := by simp [World.cell?, hpx]
  have hl7 : w7.heap.size < W8.heap.size := by omega
  have hbz := box_below W8 (Obj.cells #[.int .i64 0] 3)
  have hst := Step_any (w := W8.alloc (Obj.cells #[.int .i64 0] 3)) (p := P) (l := ⟨A10, c10, A11, c11, A12, c12, A13, c13⟩) (m := ⟨[0], []⟩) (ml := ⟨some ⟨W8.heap.size, 0, Option.none⟩, 1, Option.none, 0⟩) (Ai := Option.none) (ci := 0) (inp := [])
    ((HPG.out.mono (S' := Old W8) (fun b q => Nat.lt_trans q hl7) (KeepOn.refl _ _)).below hbz)
    ⟨Nat.le_refl _, (by decide : (1 : Nat) ≤ maxLen), ints_box W8 [0] #[.int .i64 0] rfl (show (1 : Nat) ≤ 1000 by decide), Nat.le_refl _, Nat.zero_le _, Rw.nil⟩ Rw.nil
  unfold RetStp at hst
  rw [HSA.out] at hst
  have HST := Lib.hid hst
  clear hs7 hpx hbz hst
  go_wp2_with fail
  refine HST.out.mono ?_
  rintro e w9 ⟨l1, rfl, -, hb9⟩
  obtain ⟨E1, e1, E2, e2⟩ := l1
  have hb8 := (lit_below (Below.refl W8.heap.size W8) hb9).2
  have hb10 := below_two hb8 (box_below w9 (Obj.cells (mmC mmNil ⟨E1, e1, E2, e2⟩) 65)) hb8.size
  have HB10 := Lib.hid hb10
  clear q0 q1 q2 q3 hb9 hb8 hb10 HST
  go_upto_region 9 with fail
  generalize w9.alloc (Obj.cells (mmC mmNil ⟨E1, e1, E2, e2⟩) 65) = W10 at *
  have hpx := (HB10.out.block w7.heap.size hl7).trans HPX.out
  have q0 : W10.cell? ⟨w7.heap.size, 0, Option.none⟩ = some (.slice A10 P.ins.length c10) := by simp [World.cell?, hpx]
  have q1 : W10.cell? ⟨w7.heap.size, 1, Option.none⟩ = some (.slice A11 P.rls.length c11) := by simp [World.cell?, hpx]
  have q2 : W10.cell? ⟨w7.heap.size, 2, Option.none⟩ = some (.slice A12 P.cells.length c12) := by simp [World.cell?, hpx]
  have q3 : W10.cell? ⟨w7.heap.size, 3, Option.none⟩ = some (.slice A13 P.code.length c13) := by simp [World.cell?, hpx]
  have hs10 := HB10.out.size
  have hl10 : w7.heap.size < W10.heap.size := by omega
  have hbz := box_below W10 (Obj.cells #[.int .i64 1] 3)
  have hst := Step_any (w := W10.alloc (Obj.cells #[.int .i64 1] 3)) (p := P) (l := ⟨A10, c10, A11, c11, A12, c12, A13, c13⟩) (m := mmNil) (ml := mlNil) (Ai := some ⟨W10.heap.size, 0, Option.none⟩) (ci := 1) (inp := [1])
    (((HPG.out.mono (S' := Old W8) (fun b q => Nat.lt_trans q hl7) (KeepOn.refl _ _)).below HB10.out).below hbz)
    (MmI.nil _ _) (ints_box W10 [1] #[.int .i64 1] rfl (show (1 : Nat) ≤ 1000 by decide))
  unfold RetStp at hst
  rw [HSB.out] at hst
  have HST := Lib.hid hst
  clear hs10 hpx hbz hst
  go_wp2_with fail
  refine HST.out.mono ?_
  rintro e w11 ⟨l2, rfl, -, hb9⟩
  obtain ⟨F1, f1, F2, f2⟩ := l2
  have hb8 := (lit_below HB10.out hb9).1
  have hb10 := below_two hb8 (box_below w11 (Obj.cells (mmC mmNil ⟨F1, f1, F2, f2⟩) 65)) hb8.size
  have hb6 := below_two N7.out hb10 N7.out.size
  have HB6 := Lib.hid hb6
  have B13 := Lib.hid (below_two B6.out hb6 B6.out.size)
  clear q0 q1 q2 q3 hb9 hb8 hb10 hb6 HST
  go_upto_region 10 with fail
  generalize w11.alloc (Obj.cells (mmC mmNil ⟨F1, f1, F2, f2⟩) 65) = W13 at *
  have HK := Lib.hid (known28_any W13 (HW.out.below B13.out))
  go_wp2_with fail
  refine HK.out.mono ?_
  rintro e W14 ⟨rfl, hb⟩
  have B14 := Lib.hid (below_two B13.out hb B13.out.size)
  have HB14 := Lib.hid (below_two HB6.out hb HB6.out.size)
  have R0 := Lib.hid (rw_next R0.out HB14.out)
  have R1 := Lib.hid (rw_next R1.out HB14.out)
  have R2 := Lib.hid (rw_next R2.out HB14.out)
  have R3 := Lib.hid (rw_next R3.out HB14.out)
  have R4 := Lib.hid (rw_next R4.out HB14.out)
  have R5 := Lib.hid (rw_next R5.out HB14.out)
  clear hb HB6 HK B6 N7 HB10 HPG HPX
  have HS := Lib.hid (same_lit [1, 0, 0, 1] 4 #[.int .i64 1, .int .i64 0, .int .i64 0, .int .i64 1] (c := c0) rfl rfl (by decide) W14 R0.out)
  go_wp2_with fail
  refine HS.out.mono ?_
  rintro e W15 ⟨rfl, hb⟩
  have B15 := Lib.hid (lit_below B14.out hb).1
  have N15 := Lib.hid (lit_below B14.out hb).2
  have R1 := Lib.hid (rw_next R1.out N15.out)
  have R2 := Lib.hid (rw_next R2.out N15.out)
  have R3 := Lib.hid (rw_next R3.out N15.out)
  have R4 := Lib.hid (rw_next R4.out N15.out)
  have R5 := Lib.hid (rw_next R5.out N15.out)
  clear hb HS
  have HS := Lib.hid (same_lit [1, 1, 1, 0] 4 #[.int .i64 1, .int .i64 1, .int .i64 1, .int .i64 0] (c := c1) rfl rfl (by decide) W15 R1.out)
  go_wp2_with fail
  refine HS.out.mono ?_
  rintro e W16 ⟨rfl, hb⟩
  have B16 := Lib.hid (lit_below B15.out hb).1
  have N16 := Lib.hid (lit_below B15.out hb).2
  have R2 := Lib.hid (rw_next R2.out N16.out)
  have R3 := Lib.hid (rw_next R3.out N16.out)
  have R4 := Lib.hid (rw_next R4.out N16.out)
  have R5 := Lib.hid (rw_next R5.out N16.out)
  clear hb HS
  have HS := Lib.hid (same_lit [0, 1, 1, 0] 4 #[.int .i64 0, .int .i64 1, .int .i64 1, .int .i64 0] (c := c2) rfl rfl (by decide) W16 R2.out)
  go_wp2_with fail
  refine HS.out.mono ?_
  rintro e W17 ⟨rfl, hb⟩
  have B17 := Lib.hid (lit_below B16.out hb).1
  have N17 := Lib.hid (lit_below B16.out hb).2
  have R3 := Lib.hid (rw_next R3.out N17.out)
  have R4 := Lib.hid (rw_next R4.out N17.out)
  have R5 := Lib.hid (rw_next R5.out N17.out)
  clear hb HS
  have HS := Lib.hid (same_lit [0, 0, 1, 1] 4 #[.int .i64 0, .int .i64 0, .int .i64 1, .int .i64 1] (c := c3) rfl rfl (by decide) W17 R3.out)
  go_wp2_with fail
  refine HS.out.mono ?_
  rintro e W18 ⟨rfl, hb⟩
  have B18 := Lib.hid (lit_below B17.out hb).1
  have N18 := Lib.hid (lit_below B17.out hb).2
  have R4 := Lib.hid (rw_next R4.out N18.out)
  have R5 := Lib.hid (rw_next R5.out N18.out)
  clear hb HS
  have HS := Lib.hid (same_lit [1, 0, 1] 3 #[.int .i64 1, .int .i64 0, .int .i64 1] (c := c4) rfl rfl (by decide) W18 R4.out)
  go_wp2_with fail
  refine HS.out.mono ?_
  rintro e W19 ⟨rfl, hb⟩
  have B19 := Lib.hid (lit_below B18.out hb).1
  have N19 := Lib.hid (lit_below B18.out hb).2
  have R5 := Lib.hid (rw_next R5.out N19.out)
  clear hb HS
  have HS := Lib.hid (same_lit [0, 0, 1, 0] 4 #[.int .i64 0, .int .i64 0, .int .i64 1, .int .i64 0] (c := c5) rfl rfl (by decide) W19 R5.out)
  go_wp2_with fail
  refine HS.out.mono ?_
  rintro e W20 ⟨rfl, hb⟩
  have B20 := Lib.hid (lit_below B19.out hb).1
  have N20 := Lib.hid (lit_below B19.out hb).2
  clear hb HS
  go_wp2
  go_ret
  exact ⟨rfl, B20.out⟩
end Go.Proofs.YtcikenlflcofbaaDoor
