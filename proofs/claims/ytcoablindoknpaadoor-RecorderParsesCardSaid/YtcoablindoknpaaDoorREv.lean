/-
  event of the reference, over any text of bounded length.
-/
import Derived.Test.YtcoablindoknpaaDoorREvP
namespace Go.Proofs.YtcoablindoknpaaDoor
open Go.RowKit

theorem cell_set5_other {W : World} {b g : Nat} (h : b ≠ g) (j : Nat) (v0 v1 v2 v3 v4 : Value) : (((((W.setCell ⟨g, 0, Option.none⟩ v0).setCell ⟨g, 1, Option.none⟩ v1).setCell ⟨g, 2, Option.none⟩ v2).setCell ⟨g, 3, Option.none⟩ v3).setCell ⟨g, 4, Option.none⟩ v4).cell? ⟨b, j, Option.none⟩ = W.cell? ⟨b, j, Option.none⟩ := by
  rw [World.cell?_setCell_other _ _ _ _ (by intro he; injection he with he; exact h he.symm), World.cell?_setCell_other _ _ _ _ (by intro he; injection he with he; exact h he.symm), World.cell?_setCell_other _ _ _ _ (by intro he; injection he with he; exact h he.symm), World.cell?_setCell_other _ _ _ _ (by intro he; injection he with he; exact h he.symm), World.cell?_setCell_other _ _ _ _ (by intro he; injection he with he; exact h he.symm)]
def set5 (W : World) (g : Nat) (e : Ev) : World := ((((W.setCell ⟨g, 0, Option.none⟩ (.int .i64 e.time)).setCell ⟨g, 1, Option.none⟩ (.int .i64 e.device)).setCell ⟨g, 2, Option.none⟩ (.int .i64 e.signal)).setCell ⟨g, 3, Option.none⟩ (.bool e.value)).setCell ⟨g, 4, Option.none⟩ (.int .i64 e.quality)
theorem EZ.other {W : World} {b g : Nat} {e : Ev} (h : EZ W b e) (hb : b ≠ g) (e' : Ev) : EZ (set5 W g e') b e := by
  unfold set5
  refine ⟨⟨?_, ?_, ?_, ?_, ?_⟩, by simpa using h.lt, ?_, ?_, ?_, ?_, ?_⟩
  · rw [cell_set5_other hb]; exact h.c0
  · rw [cell_set5_other hb]; exact h.c1
  · rw [cell_set5_other hb]; exact h.c2
  · rw [cell_set5_other hb]; exact h.c3
  · rw [cell_set5_other hb]; exact h.c4
  · have := h.z0; go_simp
  · have := h.z1; go_simp
  · have := h.z2; go_simp
  · have := h.z3; go_simp
  · have := h.z4; go_simp
theorem EZ.put {W : World} {g : Nat} {e : Ev} (h : EZ W g e) (e' : Ev) : EZ (set5 W g e') g e' := by
  obtain ⟨⟨z0, z1, z2, z3, z4⟩, hl, y0, y1, y2, y3, y4⟩ := h
  simp only [Nat.zero_add] at z1 z2 z3 z4
  unfold set5
  exact ⟨⟨by go_simp, by go_simp, by go_simp, by go_simp, by go_simp⟩, by simpa using hl, by go_simp, by go_simp, by go_simp, by go_simp, by go_simp⟩
def boolAt (j : Nat) : Bool := decide (j = 1)
/-- The boxes: the result's, the event's. -/
structure RvS (w wr : World) : Prop where
  res : EZ wr w.heap.size zeroEv
  ev : ∃ e, EZ wr (w.heap.size + 1) e
  bel : Below w.heap.size w wr
theorem RvS.below {w wr w' : World} (h : RvS w wr) (hb : Below wr.heap.size wr w') : RvS w w' := by
  obtain ⟨h1, ⟨e, h2⟩, h3⟩ := h
  exact ⟨h1.below hb h1.lt, ⟨e, h2.below hb h2.lt⟩, h3.trans (hb.mono h3.size)⟩
def RvO (w : World) (t d g : Int) (s : List UInt8) (q : Value) (wr : World) : Prop :=
  ∃ k : Nat, k ≤ 10 ∧ q = .int .i64 k ∧ (∀ (j : Nat) (v : Bool), j < k → rlineS ⟨t, d, g, v, j⟩ ≠ s) ∧ RvS w wr
def RvI (w : World) (t d g : Int) (s : List UInt8) (k bs : Nat) (i : Value) (wr : World) : Prop :=
  ∃ j : Nat, j ≤ 2 ∧ i = .int .i64 j ∧ (∀ m : Nat, m < j → rlineS ⟨t, d, g, boolAt m, k⟩ ≠ s) ∧ RvS w wr ∧ bs < wr.heap.size ∧ w.heap.size + 1 < bs ∧ wr.cell? ⟨bs, 0, Option.none⟩ = some (.bool false) ∧ wr.cell? ⟨bs, 1, Option.none⟩ = some (.bool true)

set_option maxRecDepth 100000 in
set_option maxHeartbeats 8000000 in
theorem revent_any (s : List UInt8) (hs : s.length ≤ 2000) (w : World) : Calls Tryd.prog 45 #[.string ⟨s.toArray⟩] w (RetEv (evL s) w) := by
  have Z0 : EZ (w.alloc (Obj.cells #[.int .i64 0, .int .i64 0, .int .i64 0, .bool false, .int .i64 0] 26)) w.heap.size zeroEv := EZ.new w zeroEv 26
  have hw0 := box_below w (Obj.cells #[.int .i64 0, .int .i64 0, .int .i64 0, .bool false, .int .i64 0] 26)
  have E1 : EZ ((w.alloc (Obj.cells #[.int .i64 0, .int .i64 0, .int .i64 0, .bool false, .int .i64 0] 26)).alloc (Obj.cells #[.int .i64 0, .int .i64 0, .int .i64 0, .bool false, .int .i64 0] 26)) (w.alloc (Obj.cells #[.int .i64 0, .int .i64 0, .int .i64 0, .bool false, .int .i64 0] 26)).heap.size zeroEv := EZ.new _ zeroEv 26
  have hw1 := box_below (w.alloc (Obj.cells #[.int .i64 0, .int .i64 0, .int .i64 0, .bool false, .int .i64 0] 26)) (Obj.cells #[.int .i64 0, .int .i64 0, .int .i64 0, .bool false, .int .i64 0] 26)
  have Z1 := Z0.below hw1 (by simp)
  rw [World.size_alloc] at E1
  have hb1 := hw0.trans (hw1.mono hw0.size)
  clear Z0 hw0 hw1
  have hP1 : ∀ e, goodB e = true → rlineS e = s → (rnumP 1000000000 s).1 = e.time ∧ (rnumP 1000000000 s).2.1 = 32 :: R1 e ∧ (rnumP 1000000000 s).2.2 = true := by
    intro e hg he
    subst he
    rw [step1 hg]
    exact ⟨rfl, rfl, rfl⟩
  have hB1 := rnum_bound (most := 1000000000) (s := s)
  have hL1 := rnum_len 1000000000 s
  have C1 : ∀ W, Calls Tryd.prog 55 #[.string ⟨s.toArray⟩, .int .i64 1000000000] W (RetRN (rnumP 1000000000 s) W) := fun W => rnum_any s 1000000000 (Nat.le_refl _) hs W
  generalize rnumP 1000000000 s = p1 at *
  obtain ⟨t, r1, o1⟩ := p1
  dsimp only at hP1 hB1 hL1
  have HC1 := Lib.hid C1
  have HP1 := Lib.hid hP1
  generalize hoe : evL s = oe
  have HOE := Lib.hid hoe
  clear C1 hP1 hoe
  go_enter Tryd.func45, Tryd.ntmps45
  go_wp2_with fail
  generalize (w.alloc (Obj.cells #[.int .i64 0, .int .i64 0, .int .i64 0, .bool false, .int .i64 0] 26)).alloc (Obj.cells #[.int .i64 0, .int .i64 0, .int .i64 0, .bool false, .int .i64 0] 26) = W1 at *
  refine (HC1.out _).mono ?_
  rintro e w2 ⟨rfl, hb2⟩
  have hw2 := hb1.trans (hb2.mono hb1.size)
  have Z2 := Z1.below hb2 Z1.lt
  have E2 := E1.below hb2 E1.lt
  clear HC1 Z1 E1 hb1 hb2
  dsimp only
  cases o1 with
  | false =>
    have HO := Lib.hid (evL_no (s := s) fun e hg he => by have h := (HP1.out e hg he).2.2; cases h)
    obtain ⟨⟨z0, z1, z2, z3, z4⟩, -, y0, y1, y2, y3, y4⟩ := id Z2
    obtain ⟨⟨x0, x1, x2, x3, x4⟩, -⟩ := id E2
    simp only [Nat.zero_add] at z1 z2 z3 z4 x1 x2 x3 x4
    dsimp only [zeroEv] at x0 x1 x2 x3 x4
    go_wp2
    refine bodyPost_ret (v := .tuple #[.agg #[.int .i64 0, .int .i64 0, .int .i64 0, .bool false, .int .i64 0], .bool false]) (by simp [results, Tryd.results45, go_sem, z0, z1, z2, z3, z4]) rfl ?_
    rw [← HOE.out, HO.out]
    exact ⟨rfl, below_set5 hw2 w.heap.size (Nat.le_refl _) _ _ _ _ _⟩
  | true =>
  have hB1' := hB1 rfl
  cases r1 with
  | nil =>
    have HO := Lib.hid (evL_no (s := s) fun e hg he => by have h := (HP1.out e hg he).2.1; cases h)
    obtain ⟨⟨z0, z1, z2, z3, z4⟩, -, y0, y1, y2, y3, y4⟩ := id Z2
    obtain ⟨⟨x0, x1, x2, x3, x4⟩, -⟩ := id E2
    simp only [Nat.zero_add] at z1 z2 z3 z4 x1 x2 x3 x4
    dsimp only [zeroEv] at x0 x1 x2 x3 x4
    go_wp2
    refine bodyPost_ret (v := .tuple #[.agg #[.int .i64 0, .int .i64 0, .int .i64 0, .bool false, .int .i64 0], .bool false]) (by simp [results, Tryd.results45, go_sem, z0, z1, z2, z3, z4]) rfl ?_
    rw [← HOE.out, HO.out]
    exact ⟨rfl, below_set5 hw2 w.heap.size (Nat.le_refl _) _ _ _ _ _⟩
  | cons ch r1 =>
  have hkc : ({ data := (ch :: r1).toArray } : ByteArray)[0]'(by show 0 < (ch :: r1).toArray.size; simp) = ch := rfl
  have hxc : ByteArray.extract { data := (ch :: r1).toArray } 1 (r1.length + 1) = ⟨r1.toArray⟩ := ext_drop (ch :: r1) 1
  rw [List.length_cons] at hL1
  by_cases hch : ch.toNat = 32
  case neg =>
    have e1 : ((ch.toNat : Int) != 32) = true := by simp; omega
    have HO := Lib.hid (evL_no (s := s) fun e hg he => by have h := (HP1.out e hg he).2.1; injection h with h; exact hch (by rw [h]; rfl))
    obtain ⟨⟨z0, z1, z2, z3, z4⟩, -, y0, y1, y2, y3, y4⟩ := id Z2
    obtain ⟨⟨x0, x1, x2, x3, x4⟩, -⟩ := id E2
    simp only [Nat.zero_add] at z1 z2 z3 z4 x1 x2 x3 x4
    dsimp only [zeroEv] at x0 x1 x2 x3 x4
    go_wp2
    refine bodyPost_ret (v := .tuple #[.agg #[.int .i64 0, .int .i64 0, .int .i64 0, .bool false, .int .i64 0], .bool false]) (by simp [results, Tryd.results45, go_sem, z0, z1, z2, z3, z4]) rfl ?_
    rw [← HOE.out, HO.out]
    exact ⟨rfl, below_set5 hw2 w.heap.size (Nat.le_refl _) _ _ _ _ _⟩
  have e1 : ((ch.toNat : Int) != 32) = false := by simp; omega
  have hP2 : ∀ e, goodB e = true → rlineS e = s → t = e.time ∧ (rnumP 999 r1).1 = e.device ∧ (rnumP 999 r1).2.1 = 46 :: R2 e ∧ (rnumP 999 r1).2.2 = true := by
    intro e hg he
    obtain ⟨h1, h2, -⟩ := HP1.out e hg he
    injection h2 with h2 h3
    rw [h3, step2 hg]
    exact ⟨h1, rfl, rfl, rfl⟩
  have hB2 := rnum_bound (most := 999) (s := r1)
  have hL2 := rnum_len 999 r1
  have C2 : ∀ W, Calls Tryd.prog 55 #[.string ⟨r1.toArray⟩, .int .i64 999] W (RetRN (rnumP 999 r1) W) := fun W => rnum_any r1 999 (by omega) (by omega) W
  generalize rnumP 999 r1 = p2 at *
  obtain ⟨d, r2, o2⟩ := p2
  dsimp only at hP2 hB2 hL2
  have HC2 := Lib.hid C2
  have HP2 := Lib.hid hP2
  clear C2 hP2 HP1 hB1
  go_wp2_with fail
  refine (HC2.out _).mono ?_
  rintro e w3 ⟨rfl, hb3⟩
  have hw3 := hw2.trans (hb3.mono hw2.size)
  have Z3 := Z2.below hb3 Z2.lt
  have E3 := E2.below hb3 E2.lt
  clear HC2 Z2 E2 hw2 hb3 hkc hxc e1
  dsimp only
  cases o2 with
  | false =>
    have HO := Lib.hid (evL_no (s := s) fun e hg he => by have h := (HP2.out e hg he).2.2.2; cases h)
    obtain ⟨⟨z0, z1, z2, z3, z4⟩, -, y0, y1, y2, y3, y4⟩ := id Z3
    obtain ⟨⟨x0, x1, x2, x3, x4⟩, -⟩ := id E3
    simp only [Nat.zero_add] at z1 z2 z3 z4 x1 x2 x3 x4
    dsimp only [zeroEv] at x0 x1 x2 x3 x4
    go_wp2
    refine bodyPost_ret (v := .tuple #[.agg #[.int .i64 0, .int .i64 0, .int .i64 0, .bool false, .int .i64 0], .bool false]) (by simp [results, Tryd.results45, go_sem, z0, z1, z2, z3, z4]) rfl ?_
    rw [← HOE.out, HO.out]
    exact ⟨rfl, below_set5 hw3 w.heap.size (Nat.le_refl _) _ _ _ _ _⟩
  | true =>
  have hB2' := hB2 rfl
  cases r2 with
  | nil =>
    have HO := Lib.hid (evL_no (s := s) fun e hg he => by have h := (HP2.out e hg he).2.2.1; cases h)
    obtain ⟨⟨z0, z1, z2, z3, z4⟩, -, y0, y1, y2, y3, y4⟩ := id Z3
    obtain ⟨⟨x0, x1, x2, x3, x4⟩, -⟩ := id E3
    simp only [Nat.zero_add] at z1 z2 z3 z4 x1 x2 x3 x4
    dsimp only [zeroEv] at x0 x1 x2 x3 x4
    go_wp2
    refine bodyPost_ret (v := .tuple #[.agg #[.int .i64 0, .int .i64 0, .int .i64 0, .bool false, .int .i64 0], .bool false]) (by simp [results, Tryd.results45, go_sem, z0, z1, z2, z3, z4]) rfl ?_
    rw [← HOE.out, HO.out]
    exact ⟨rfl, below_set5 hw3 w.heap.size (Nat.le_refl _) _ _ _ _ _⟩
  | cons cd r2 =>
  have hkc : ({ data := (cd :: r2).toArray } : ByteArray)[0]'(by show 0 < (cd :: r2).toArray.size; simp) = cd := rfl
  have hxc : ByteArray.extract { data := (cd :: r2).toArray } 1 (r2.length + 1) = ⟨r2.toArray⟩ := ext_drop (cd :: r2) 1
  rw [List.length_cons] at hL2
  by_cases hcd : cd.toNat = 46
  case neg =>
    have e1 : ((cd.toNat : Int) != 46) = true := by simp; omega
    have HO := Lib.hid (evL_no (s := s) fun e hg he => by have h := (HP2.out e hg he).2.2.1; injection h with h; exact hcd (by rw [h]; rfl))
    obtain ⟨⟨z0, z1, z2, z3, z4⟩, -, y0, y1, y2, y3, y4⟩ := id Z3
    obtain ⟨⟨x0, x1, x2, x3, x4⟩, -⟩ := id E3
    simp only [Nat.zero_add] at z1 z2 z3 z4 x1 x2 x3 x4
    dsimp only [zeroEv] at x0 x1 x2 x3 x4
    go_wp2
    refine bodyPost_ret (v := .tuple #[.agg #[.int .i64 0, .int .i64 0, .int .i64 0, .bool false, .int .i64 0], .bool false]) (by simp [results, Tryd.results45, go_sem, z0, z1, z2, z3, z4]) rfl ?_
    rw [← HOE.out, HO.out]
    exact ⟨rfl, below_set5 hw3 w.heap.size (Nat.le_refl _) _ _ _ _ _⟩
  have e1 : ((cd.toNat : Int) != 46) = false := by simp; omega
  have hP3 : ∀ e, goodB e = true → rlineS e = s → t = e.time ∧ d = e.device ∧ (rnumP 999 r2).1 = e.signal ∧ (rnumP 999 r2).2.2 = true := by
    intro e hg he
    obtain ⟨h0, h1, h2, -⟩ := HP2.out e hg he
    injection h2 with h2 h3
    rw [h3, step3 hg]
    exact ⟨h0, h1, rfl, rfl⟩
  have hB3 := rnum_bound (most := 999) (s := r2)
  have C3 : ∀ W, Calls Tryd.prog 55 #[.string ⟨r2.toArray⟩, .int .i64 999] W (RetRN (rnumP 999 r2) W) := fun W => rnum_any r2 999 (by omega) (by omega) W
  generalize rnumP 999 r2 = p3 at *
  obtain ⟨g, r3, o3⟩ := p3
  dsimp only at hP3 hB3
  have HC3 := Lib.hid C3
  have HP3 := Lib.hid hP3
  clear C3 hP3 HP2 hB2
  go_wp2_with fail
  refine (HC3.out _).mono ?_
  rintro e w4 ⟨rfl, hb4⟩
  have hw4 := hw3.trans (hb4.mono hw3.size)
  have Z4 := Z3.below hb4 Z3.lt
  have E4 := E3.below hb4 E3.lt
  clear HC3 Z3 E3 hw3 hb4 hkc hxc e1
  dsimp only
  cases o3 with
  | false =>
    have HO := Lib.hid (evL_no (s := s) fun e hg he => by have h := (HP3.out e hg he).2.2.2; cases h)
    obtain ⟨⟨z0, z1, z2, z3, z4⟩, -, y0, y1, y2, y3, y4⟩ := id Z4
    obtain ⟨⟨x0, x1, x2, x3, x4⟩, -⟩ := id E4
    simp only [Nat.zero_add] at z1 z2 z3 z4 x1 x2 x3 x4
    dsimp only [zeroEv] at x0 x1 x2 x3 x4
    go_wp2
    refine bodyPost_ret (v := .tuple #[.agg #[.int .i64 0, .int .i64 0, .int .i64 0, .bool false, .int .i64 0], .bool false]) (by simp [results, Tryd.results45, go_sem, z0, z1, z2, z3, z4]) rfl ?_
    rw [← HOE.out, HO.out]
    exact ⟨rfl, below_set5 hw4 w.heap.size (Nat.le_refl _) _ _ _ _ _⟩
  | true =>
  have hB3' := hB3 rfl
  have S4 : RvS w w4 := ⟨Z4, ⟨_, E4⟩, hw4⟩
  have HS4 := Lib.hid S4
  clear Z4 E4 hw4 S4 hB3
  go_wp2
  go_loopw [11] (RvO w t d g s) (fun i _ => 10 - (intOf i).toNat)
  case atStart => exact ⟨0, Nat.zero_le _, rfl, (fun j v h => absurd h (Nat.not_lt_zero _)), HS4.out⟩
  case round =>
    obtain ⟨k, hk, rfl, hno, hS⟩ := hrel
    have HNO := Lib.hid hno
    clear hno
    by_cases hk10 : k < 10
    case neg =>
      have HO := Lib.hid (evL_no (s := s) fun e hg he => by
        obtain ⟨h1, h2, h3, -⟩ := HP3.out e hg he
        obtain ⟨-, -, -, a7, a8⟩ := good_bounds hg
        refine HNO.out e.quality.toNat e.value (by omega) ?_
        rw [h1, h2, h3, Int.toNat_of_nonneg a7]
        exact he)
      have hb : ¬ (k : Int) ≤ 9 := by omega
      obtain ⟨⟨z0, z1, z2, z3, z4⟩, -, y0, y1, y2, y3, y4⟩ := id hS.res
      simp only [Nat.zero_add] at z1 z2 z3 z4
      have hbel := hS.bel
      clear HP3 HNO hS
      go_wp2
      refine bodyPost_ret (v := .tuple #[.agg #[.int .i64 0, .int .i64 0, .int .i64 0, .bool false, .int .i64 0], .bool false]) (by simp [results, Tryd.results45, go_sem, z0, z1, z2, z3, z4]) rfl ?_
      rw [← HOE.out, HO.out]
      exact ⟨rfl, below_set5 hbel w.heap.size (Nat.le_refl _) _ _ _ _ _⟩
    have hb : (k : Int) ≤ 9 := by omega
    have hbs := box_below wr (Obj.cells #[.bool false, .bool true] 4)
    have hI : RvI w t d g s k wr.heap.size (.int .i64 0) (wr.alloc (Obj.cells #[.bool false, .bool true] 4)) :=
      ⟨0, Nat.zero_le _, rfl, (fun m h => absurd h (Nat.not_lt_zero _)), hS.below hbs, by simp, by obtain ⟨e, h⟩ := hS.ev; exact h.lt, by go_simp, by go_simp⟩
    have HI := Lib.hid hI
    clear hI hS
    go_wp2
    generalize wr.heap.size = bs at *
    go_loopw [71] (RvI w t d g s k bs) (fun i _ => 2 - (intOf i).toNat)
    case atStart => exact HI.out
    case round =>
      clear HI
      obtain ⟨j, hj, rfl, hnj, hS, hbl, hbb, hc0, hc1⟩ := hrel
      by_cases hj2 : j < 2
      case neg =>
        obtain rfl : j = 2 := by omega
        have HNJ := Lib.hid hnj
        have HS := Lib.hid hS
        clear hnj hS
        go_wp2
        go_roundw
        case rel =>
          refine ⟨k + 1, by omega, by go_num, fun m v hm => ?_, HS.out⟩
          rcases Nat.lt_succ_iff_lt_or_eq.1 hm with h | rfl
          · exact HNO.out m v h
          · cases v
            · exact HNJ.out 0 (by decide)
            · exact HNJ.out 1 (by decide)
        case measure => simp [intOf]; omega
      have hcell : wr.cell? ⟨bs, j, Option.none⟩ = some (.bool (boolAt j)) := by
        rcases (show j = 0 ∨ j = 1 by omega) with rfl | rfl
        · exact hc0
        · exact hc1
      have HNJ := Lib.hid hnj
      have HC0 := Lib.hid hc0
      have HC1 := Lib.hid hc1
      have hsame : ∀ m, m < j + 1 → m < j ∨ m = j := fun m h => Nat.lt_succ_iff_lt_or_eq.1 h
      generalize hvb : boolAt j = vb at *
      have HV := Lib.hid hvb
      have hgood := good_mk (t := t) (d := d) (g := g) (q := (k : Int)) (v := vb) hB1' hB2' hB3' ⟨by omega, hb⟩
      have CL := fun W => rline_any ⟨t, d, g, vb, (k : Int)⟩ W hgood
      obtain ⟨e0, hE⟩ := hS.ev
      have hE5 := hE.put ⟨t, d, g, vb, (k : Int)⟩
      have hR5 := hS.res.other (g := w.heap.size + 1) (by omega) ⟨t, d, g, vb, (k : Int)⟩
      have hB5 := below_set5 hS.bel (w.heap.size + 1) (Nat.le_succ _) (.int .i64 t) (.int .i64 d) (.int .i64 g) (.bool vb) (.int .i64 (k : Int))
      unfold set5 at hE5 hR5
      dsimp only at hE5 hR5
      have hC50 := (cell_set5_other (W := wr) (b := bs) (g := w.heap.size + 1) (by omega) 0 (.int .i64 t) (.int .i64 d) (.int .i64 g) (.bool vb) (.int .i64 (k : Int))).trans HC0.out
      have hC51 := (cell_set5_other (W := wr) (b := bs) (g := w.heap.size + 1) (by omega) 1 (.int .i64 t) (.int .i64 d) (.int .i64 g) (.bool vb) (.int .i64 (k : Int))).trans HC1.out
      have hOK := evL_ok (e := ⟨t, d, g, vb, (k : Int)⟩) (s := s) hgood
      unfold Ev.cells at CL
      dsimp only at CL
      generalize hls : rlineS ⟨t, d, g, vb, (k : Int)⟩ = ls at *
      have HLS := Lib.hid hls
      have HCL := Lib.hid CL
      obtain ⟨⟨x0, x1, x2, x3, x4⟩, -, y0, y1, y2, y3, y4⟩ := id hE
      simp only [Nat.zero_add] at x1 x2 x3 x4
      have HE5 := Lib.hid hE5
      have HR5 := Lib.hid hR5
      have HOK := Lib.hid hOK
      have hl5 : bs < (((((wr.setCell ⟨w.heap.size + 1, 0, Option.none⟩ (.int .i64 t)).setCell ⟨w.heap.size + 1, 1, Option.none⟩ (.int .i64 d)).setCell ⟨w.heap.size + 1, 2, Option.none⟩ (.int .i64 g)).setCell ⟨w.heap.size + 1, 3, Option.none⟩ (.bool vb)).setCell ⟨w.heap.size + 1, 4, Option.none⟩ (.int .i64 (k : Int))).heap.size := by simpa using hbl
      have HK50 := Lib.hid hC50
      have HK51 := Lib.hid hC51
      clear hls CL hvb hc0 hc1 hE hE5 hR5 hOK hS hC50 hC51 hnj
      go_wp2_with fail
      refine (HCL.out _).mono ?_
      clear x0 x1 x2 x3 x4 y0 y1 y2 y3 y4 hcell
      rintro e w5 ⟨rfl, hb5⟩
      have hE6 := HE5.out.below hb5 HE5.out.lt
      have hR6 := HR5.out.below hb5 HR5.out.lt
      have hw6 := hB5.trans (hb5.mono hB5.size)
      have hk60 := (hb5.cell (p := ⟨bs, 0, Option.none⟩) hl5).trans HK50.out
      have hk61 := (hb5.cell (p := ⟨bs, 1, Option.none⟩) hl5).trans HK51.out
      have hl6 := Nat.lt_of_lt_of_le hl5 hb5.size
      clear HE5 HR5 hB5 hb5 hl5 HK50 HK51 HC0 HC1 HCL
      by_cases heq : ls = s
      · have HO := Lib.hid (HOK.out heq)
        subst heq
        obtain ⟨⟨z0, z1, z2, z3, z4⟩, -, y0, y1, y2, y3, y4⟩ := id hR6
        obtain ⟨⟨x0, x1, x2, x3, x4⟩, -⟩ := id hE6
        simp only [Nat.zero_add] at z1 z2 z3 z4 x1 x2 x3 x4
        clear HNO HNJ HP3 HLS HOK
        go_wp2
        refine bodyPost_ret (v := .tuple #[.agg #[.int .i64 t, .int .i64 d, .int .i64 g, .bool vb, .int .i64 (k : Int)], .bool true]) (by simp [results, Tryd.results45, go_sem, z0, z1, z2, z3, z4]) rfl ?_
        rw [← HOE.out, HO.out]
        exact ⟨rfl, below_set5 hw6 w.heap.size (Nat.le_refl _) _ _ _ _ _⟩
      · have hne : (ls == s) = false := by simpa using heq
        have S6 : RvS w w5 := ⟨hR6, ⟨_, hE6⟩, hw6⟩
        have HS6 := Lib.hid S6
        have HK0 := Lib.hid hk60
        have HK1 := Lib.hid hk61
        clear S6 hR6 hE6 hk60 hk61
        go_wp2
        go_roundw
        case rel =>
          refine ⟨j + 1, by omega, by go_num, fun m hm => ?_, HS6.out, hl6, hbb, HK0.out, HK1.out⟩
          rcases hsame m hm with h | rfl
          · exact HNJ.out m h
          · rw [HV.out, HLS.out]; exact heq
        case measure => simp [intOf]; omega
end Go.Proofs.YtcoablindoknpaaDoor
