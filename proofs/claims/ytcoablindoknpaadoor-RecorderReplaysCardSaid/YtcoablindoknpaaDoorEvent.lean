/-
  The event of a line: strings.Cut by its contract, event of the program.
-/
import Derived.Test.YtcoablindoknpaaDoorArr
import Derived.Test.YtcoablindoknpaaDoorRecP
namespace Go.Proofs.YtcoablindoknpaaDoor
open Go.RowKit

/-- The library's own number at the first place of memory. -/
def Mx (w : World) : Prop := (∃ m, w.cell? ⟨0, 0, Option.none⟩ = some (.int .i64 m)) ∧ 0 < w.heap.size
theorem Mx.below {w w' : World} (h : Mx w) (hb : Below w.heap.size w w') : Mx w' := by
  obtain ⟨⟨m, hm⟩, h0⟩ := h
  exact ⟨⟨m, (hb.cell (p := ⟨0, 0, Option.none⟩) h0).trans hm⟩, Nat.lt_of_lt_of_le h0 hb.size⟩
def RetCut (p : List UInt8 × List UInt8 × Bool) (w : World) (e : Ending) (w' : World) : Prop := e = .returned (.tuple #[.string ⟨p.1.toArray⟩, .string ⟨p.2.1.toArray⟩, .bool p.2.2]) ∧ Below w.heap.size w w'
theorem cut_any (s sep : List UInt8) (hs : s.length ≤ 2000) (w : World) (M : Mx w) : Calls Tryd.prog 42 #[.string ⟨s.toArray⟩, .string ⟨sep.toArray⟩] w (RetCut (Lib.cut s sep) w) := by
  obtain ⟨⟨m, hm⟩, -⟩ := M
  refine (Tryd.strings_Cut ⟨s.toArray⟩ ⟨sep.toArray⟩ m w (by show s.toArray.size < _; rw [List.size_toArray]; omega) hm).mono ?_
  rintro e w' ⟨rfl, n, rfl⟩
  exact ⟨rfl, below_drewN (Below.refl _ _) n⟩
theorem cut_len (s sep : List UInt8) : (Lib.cut s sep).1.length ≤ s.length ∧ (Lib.cut s sep).2.1.length ≤ s.length := by
  unfold Lib.cut
  split
  · simp only [List.length_take, List.length_drop]; omega
  · simp

def evOfParts (t d g : Int × Bool) (v : Bool) (q : Int × Bool) (s : List UInt8) : Option Ev :=
  if t.2 = true ∧ d.2 = true ∧ g.2 = true ∧ q.2 = true ∧ goodB ⟨t.1, d.1, g.1, v, q.1⟩ = true ∧ lineS ⟨t.1, d.1, g.1, v, q.1⟩ = s then some ⟨t.1, d.1, g.1, v, q.1⟩ else Option.none
def evP (s : List UInt8) : Option Ev :=
  let c1 := Lib.cut s [32]
  let c2 := Lib.cut c1.2.1 [46]
  let c3 := Lib.cut c2.2.1 [32]
  let c4 := Lib.cut c3.2.1 [32, 63]
  evOfParts (numP c1.1) (numP c2.1) (numP c3.1) (c4.1 == [111, 110]) (if c4.2.2 then numP c4.2.1 else (0, true)) s
def zeroEv : Ev := ⟨0, 0, 0, false, 0⟩
def RetEv (o : Option Ev) (w : World) (e : Ending) (w' : World) : Prop := e = .returned (.tuple #[.agg (o.getD zeroEv).cells.toArray, .bool o.isSome]) ∧ Below w.heap.size w w'

attribute [local go_sem] eq4

/-- An event's box that may be written. -/
structure EZ (W : World) (b : Nat) (e : Ev) : Prop extends EB W b 0 e where
  lt : b < W.heap.size
  z0 : W.frozen? ⟨b, 0, Option.none⟩ = false
  z1 : W.frozen? ⟨b, 1, Option.none⟩ = false
  z2 : W.frozen? ⟨b, 2, Option.none⟩ = false
  z3 : W.frozen? ⟨b, 3, Option.none⟩ = false
  z4 : W.frozen? ⟨b, 4, Option.none⟩ = false
theorem EZ.below {W W' : World} {B b : Nat} {e : Ev} (h : EZ W b e) (hb : Below B W W') (hB : b < B) : EZ W' b e :=
  ⟨h.toEB.below hb hB, Nat.lt_of_lt_of_le h.lt hb.size, (hb.frozen (p := ⟨b, 0, Option.none⟩) hB).trans h.z0, (hb.frozen (p := ⟨b, 1, Option.none⟩) hB).trans h.z1, (hb.frozen (p := ⟨b, 2, Option.none⟩) hB).trans h.z2, (hb.frozen (p := ⟨b, 3, Option.none⟩) hB).trans h.z3, (hb.frozen (p := ⟨b, 4, Option.none⟩) hB).trans h.z4⟩
theorem EZ.new (w : World) (e : Ev) (t : TypeId) : EZ (w.alloc (Obj.cells #[.int .i64 e.time, .int .i64 e.device, .int .i64 e.signal, .bool e.value, .int .i64 e.quality] t)) w.heap.size e :=
  ⟨EB.new w e t, by simp, by go_simp, by go_simp, by go_simp, by go_simp, by go_simp⟩

theorem below_set5 {B : Nat} {w w5 : World} (h : Below B w w5) (g : Nat) (hg : B ≤ g) (a b c d e : Value) : Below B w (((((w5.setCell ⟨g, 0, Option.none⟩ a).setCell ⟨g, 1, Option.none⟩ b).setCell ⟨g, 2, Option.none⟩ c).setCell ⟨g, 3, Option.none⟩ d).setCell ⟨g, 4, Option.none⟩ e) :=
  ((((h.setCell (p := ⟨g, 0, Option.none⟩) hg a).setCell (p := ⟨g, 1, Option.none⟩) hg b).setCell (p := ⟨g, 2, Option.none⟩) hg c).setCell (p := ⟨g, 3, Option.none⟩) hg d).setCell (p := ⟨g, 4, Option.none⟩) hg e
theorem A4.new (w : World) (a b c d : Bool) (t : TypeId) : (w.alloc (Obj.cells #[.bool a, .bool b, .bool c, .bool d] t)).cell? ⟨w.heap.size, 0, Option.none⟩ = some (.bool a) ∧ (w.alloc (Obj.cells #[.bool a, .bool b, .bool c, .bool d] t)).cell? ⟨w.heap.size, 1, Option.none⟩ = some (.bool b) ∧
    (w.alloc (Obj.cells #[.bool a, .bool b, .bool c, .bool d] t)).cell? ⟨w.heap.size, 2, Option.none⟩ = some (.bool c) ∧ (w.alloc (Obj.cells #[.bool a, .bool b, .bool c, .bool d] t)).cell? ⟨w.heap.size, 3, Option.none⟩ = some (.bool d) := ⟨by go_simp, by go_simp, by go_simp, by go_simp⟩
theorem hid_parts (t d g : Int) (v : Bool) (q : Int) (o1 o2 o3 o4 : Bool) (s : List UInt8) :
    ((o1 && o2 && o3 && o4) = false → evOfParts (t, o1) (d, o2) (g, o3) v (q, o4) s = Option.none) ∧ (goodB ⟨t, d, g, v, q⟩ = false → evOfParts (t, o1) (d, o2) (g, o3) v (q, o4) s = Option.none) ∧
    (lineS ⟨t, d, g, v, q⟩ ≠ s → evOfParts (t, o1) (d, o2) (g, o3) v (q, o4) s = Option.none) ∧
    ((o1 && o2 && o3 && o4) = true → goodB ⟨t, d, g, v, q⟩ = true → lineS ⟨t, d, g, v, q⟩ = s → evOfParts (t, o1) (d, o2) (g, o3) v (q, o4) s = some ⟨t, d, g, v, q⟩) := by
  unfold evOfParts
  refine ⟨fun h => if_neg ?_, fun h => if_neg ?_, fun h => if_neg ?_, fun h1 h2 h3 => if_pos ?_⟩
  · rintro ⟨h1, h2, h3, h4, -, -⟩
    simp only at h1 h2 h3 h4
    rw [h1, h2, h3, h4] at h
    cases h
  · rintro ⟨-, -, -, -, h5, -⟩
    simp only at h5
    rw [h5] at h
    cases h
  · rintro ⟨-, -, -, -, -, h6⟩
    exact h h6
  · simp only [Bool.and_eq_true] at h1
    exact ⟨h1.1.1.1, h1.1.1.2, h1.1.2, h1.2, h2, h3⟩

set_option maxRecDepth 100000 in
set_option maxHeartbeats 4000000 in
theorem event_any (s : List UInt8) (hs : s.length ≤ 2000) (w : World) (T : Tab w) (M : Mx w) : Calls Tryd.prog 43 #[.string ⟨s.toArray⟩] w (RetEv (evP s) w) := by
  have HT := Lib.hid T
  have HM := Lib.hid M
  clear T M
  have Z0 : EZ (w.alloc (Obj.cells #[.int .i64 0, .int .i64 0, .int .i64 0, .bool false, .int .i64 0] 26)) w.heap.size zeroEv := EZ.new w zeroEv 26
  have hw0 := box_below w (Obj.cells #[.int .i64 0, .int .i64 0, .int .i64 0, .bool false, .int .i64 0] 26)
  have hev : ∃ c1 c2 c3 c4, Lib.cut s [32] = c1 ∧ Lib.cut c1.2.1 [46] = c2 ∧ Lib.cut c2.2.1 [32] = c3 ∧ Lib.cut c3.2.1 [32, 63] = c4 := ⟨_, _, _, _, rfl, rfl, rfl, rfl⟩
  obtain ⟨c1, c2, c3, c4, e1, e2, e3, e4⟩ := hev
  have hP : evP s = evOfParts (numP c1.1) (numP c2.1) (numP c3.1) (c4.1 == [111, 110]) (if c4.2.2 then numP c4.2.1 else (0, true)) s := by
    unfold evP
    simp only [e1, e2, e3, e4]
  have HP := Lib.hid hP
  have l1 := cut_len s [32]
  have l2 := cut_len c1.2.1 [46]
  have l3 := cut_len c2.2.1 [32]
  have l4 := cut_len c3.2.1 [32, 63]
  rw [e1] at l1
  rw [e2] at l2
  rw [e3] at l3
  rw [e4] at l4
  have C1 := fun W M => cut_any s [32] hs W M
  have C2 := fun W M => cut_any c1.2.1 [46] (by omega) W M
  have C3 := fun W M => cut_any c2.2.1 [32] (by omega) W M
  have C4 := fun W M => cut_any c3.2.1 [32, 63] (by omega) W M
  rw [e1] at C1
  rw [e2] at C2
  rw [e3] at C3
  rw [e4] at C4
  have HC1 := Lib.hid C1
  have HC2 := Lib.hid C2
  have HC3 := Lib.hid C3
  have HC4 := Lib.hid C4
  clear C1 C2 C3 C4 e1 e2 e3 e4 hP
  obtain ⟨a1, r1, f1⟩ := c1
  obtain ⟨a2, r2, f2⟩ := c2
  obtain ⟨a3, r3, f3⟩ := c3
  obtain ⟨a4, r4, f4⟩ := c4
  dsimp only at l1 l2 l3 l4
  generalize evP s = oe at *
  go_enter Tryd.func43, Tryd.ntmps43
  go_wp2_with fail
  refine (HC1.out _ (HM.out.below hw0)).mono ?_
  rintro e w1 ⟨rfl, hb1⟩
  go_wp2_with fail
  have hw1 := hw0.trans (hb1.mono hw0.size)
  refine (HC2.out _ (HM.out.below hw1)).mono ?_
  rintro e w2 ⟨rfl, hb2⟩
  have hw2 := hw1.trans (hb2.mono hw1.size)
  go_wp2_with fail
  refine (HC3.out _ (HM.out.below hw2)).mono ?_
  rintro e w3 ⟨rfl, hb3⟩
  have hw3 := hw2.trans (hb3.mono hw2.size)
  go_wp2_with fail
  refine (HC4.out _ (HM.out.below hw3)).mono ?_
  rintro e w4 ⟨rfl, hb4⟩
  have hw4 := hw3.trans (hb4.mono hw3.size)
  have Z4 := Z0.below (hb1.trans ((hb2.trans ((hb3.trans (hb4.mono hb3.size)).mono hb2.size)).mono hb1.size)) (by simp)
  have N1 := fun W => number_any a1 W (by unfold maxLen; omega)
  have N2 := fun W => number_any a2 W (by unfold maxLen; omega)
  have N3 := fun W => number_any a3 W (by unfold maxLen; omega)
  have N4 := fun W => number_any r4 W (by unfold maxLen; omega)
  have HP2 := HP.out
  generalize numP a1 = n1 at *
  generalize numP a2 = n2 at *
  generalize numP a3 = n3 at *
  generalize numP r4 = n4 at *
  obtain ⟨t, o1⟩ := n1
  obtain ⟨d, o2⟩ := n2
  obtain ⟨g, o3⟩ := n3
  obtain ⟨q, o4⟩ := n4
  have HN1 := Lib.hid N1
  have HN2 := Lib.hid N2
  have HN3 := Lib.hid N3
  have HN4 := Lib.hid N4
  have HP3 := Lib.hid HP2
  have hsz4 := hw4.size
  have hs0 := hb4.size
  clear N1 N2 N3 N4 HP HP2 HC1 HC2 HC3 HC4 Z0 hw0 hb1 hb2 hb3 hb4 hw1 hw2 hw3 hs0
  cases f4 with
  | false =>
    go_wp2_with fail
    refine (HN1.out _).mono ?_
    rintro e w5 ⟨rfl, rfl⟩
    go_wp2_with fail
    refine (HN2.out _).mono ?_
    rintro e w5 ⟨rfl, rfl⟩
    go_wp2_with fail
    refine (HN3.out _).mono ?_
    rintro e w5 ⟨rfl, rfl⟩
    go_upto_region 13 with fail
    have hE4 := EZ.new w4 ⟨t, d, g, a4 == [111, 110], 0⟩ 26
    have hA5 := box_below (w4.alloc (Obj.cells #[.int .i64 t, .int .i64 d, .int .i64 g, .bool (a4 == [111, 110]), .int .i64 0] 26)) (Obj.cells #[.bool o1, .bool o2, .bool o3, .bool true] 83)
    have hA4 := box_below w4 (Obj.cells #[.int .i64 t, .int .i64 d, .int .i64 g, .bool (a4 == [111, 110]), .int .i64 0] 26)
    have E5 := hE4.below hA5 (by simp)
    have h45 := hA4.trans (hA5.mono hA4.size)
    have hw5 := hw4.trans (h45.mono hsz4)
    have Z5 := Z4.below h45 Z4.lt
    have hR := hid_parts t d g (a4 == [111, 110]) 0 o1 o2 o3 true s
    have hP := HP3.out
    simp only [if_false, Bool.false_eq_true] at hP
    rw [← hP] at hR
    obtain ⟨x0, x1, x2, x3⟩ := A4.new (w4.alloc (Obj.cells #[.int .i64 t, .int .i64 d, .int .i64 g, .bool (a4 == [111, 110]), .int .i64 0] 26)) o1 o2 o3 true 83
    rw [World.size_alloc] at x0 x1 x2 x3
    clear hE4 hA5 hA4 hP HP3 Z4 h45 HN1 HN2 HN3 HN4
    generalize (w4.alloc (Obj.cells #[.int .i64 t, .int .i64 d, .int .i64 g, .bool (a4 == [111, 110]), .int .i64 0] 26)).alloc (Obj.cells #[.bool o1, .bool o2, .bool o3, .bool true] 83) = W5 at *
    generalize (a4 == [111, 110]) = vb at *
    obtain ⟨hR1, hR2, hR3, hR4⟩ := hR
    have hs5 := hw5.size
    have l5 := E5.lt
    cases ho : (o1 && o2 && o3 && true) with
    | false =>
      have HO := Lib.hid (hR1 ho)
      clear hR1 hR2 hR3 hR4
      obtain ⟨⟨z0, z1, z2, z3, z4⟩, -, y0, y1, y2, y3, y4⟩ := id Z5
      simp only [Nat.zero_add] at z1 z2 z3 z4
      go_wp2
      refine bodyPost_ret (v := .tuple #[.agg #[.int .i64 0, .int .i64 0, .int .i64 0, .bool false, .int .i64 0], .bool false]) (by simp [results, Tryd.results43, go_sem, z0, z1, z2, z3, z4]) rfl ?_
      rw [HO.out]
      exact ⟨rfl, below_set5 hw5 w.heap.size (Nat.le_refl _) _ _ _ _ _⟩
    | true =>
      have CG := fun W => good_any ⟨t, d, g, vb, 0⟩ W
      have CL := line_any ⟨t, d, g, vb, 0⟩
      cases hg : goodB ⟨t, d, g, vb, 0⟩ with
      | false =>
        have HO := Lib.hid (hR2 hg)
        rw [hg] at CG
        unfold Ev.cells at CG
        dsimp only at CG
        have HCG := Lib.hid CG
        obtain ⟨⟨q0, q1, q2, q3, q4⟩, -⟩ := id E5
        clear hR1 hR2 hR3 hR4 CG CL
        go_wp2_with fail
        refine (HCG.out _).mono ?_
        rintro e w6 ⟨rfl, hb6⟩
        have hw6 := hw5.trans (hb6.mono hs5)
        have Z6 := Z5.below hb6 Z5.lt
        obtain ⟨⟨z0, z1, z2, z3, z4⟩, -, y0, y1, y2, y3, y4⟩ := id Z6
        simp only [Nat.zero_add] at z1 z2 z3 z4
        go_wp2
        refine bodyPost_ret (v := .tuple #[.agg #[.int .i64 0, .int .i64 0, .int .i64 0, .bool false, .int .i64 0], .bool false]) (by simp [results, Tryd.results43, go_sem, z0, z1, z2, z3, z4]) rfl ?_
        rw [HO.out]
        exact ⟨rfl, below_set5 hw6 w.heap.size (Nat.le_refl _) _ _ _ _ _⟩
      | true =>
        have hR4' := hR4 ho hg
        rw [hg] at CG
        unfold Ev.cells at CG CL
        dsimp only at CG CL
        have HCG := Lib.hid CG
        have HCL := Lib.hid CL
        have HG := Lib.hid hg
        have HR3 := Lib.hid hR3
        have HR4 := Lib.hid hR4'
        obtain ⟨⟨q0, q1, q2, q3, q4⟩, -⟩ := id E5
        clear hR1 hR2 hR3 hR4 CG CL hg hR4'
        go_wp2_with fail
        refine (HCG.out _).mono ?_
        rintro e w6 ⟨rfl, hb6⟩
        have hw6 := hw5.trans (hb6.mono hs5)
        have Z6 := Z5.below hb6 Z5.lt
        have E6 := E5.below hb6 l5
        clear q0 q1 q2 q3 q4
        obtain ⟨⟨q0, q1, q2, q3, q4⟩, -⟩ := id E6
        go_wp2_with fail
        refine (HCL.out w6 (HT.out.below hw6) HG.out).mono ?_
        rintro e w7 ⟨rfl, hb7⟩
        have hw7 := hw6.trans (hb7.mono hw6.size)
        have Z7 := Z6.below hb7 Z6.lt
        have E7 := E6.below hb7 E6.lt
        clear q0 q1 q2 q3 q4
        obtain ⟨⟨q0, q1, q2, q3, q4⟩, -⟩ := id E7
        have hr3 := HR3.out
        have hr4 := HR4.out
        generalize lineS ⟨t, d, g, vb, 0⟩ = ls at *
        by_cases hls : ls = s
        · have HO := Lib.hid (hr4 hls)
          subst hls
          clear hr3 hr4
          obtain ⟨⟨z0, z1, z2, z3, z4⟩, -, y0, y1, y2, y3, y4⟩ := id Z7
          simp only [Nat.zero_add] at z1 z2 z3 z4
          go_wp2
          refine bodyPost_ret (v := .tuple #[.agg #[.int .i64 t, .int .i64 d, .int .i64 g, .bool vb, .int .i64 0], .bool true]) (by simp [results, Tryd.results43, go_sem, z0, z1, z2, z3, z4]) rfl ?_
          rw [HO.out]
          exact ⟨rfl, below_set5 hw7 w.heap.size (Nat.le_refl _) _ _ _ _ _⟩
        · have HO := Lib.hid (hr3 hls)
          have hne : (ls == s) = false := by simpa using hls
          clear hr3 hr4
          obtain ⟨⟨z0, z1, z2, z3, z4⟩, -, y0, y1, y2, y3, y4⟩ := id Z7
          simp only [Nat.zero_add] at z1 z2 z3 z4
          go_wp2
          refine bodyPost_ret (v := .tuple #[.agg #[.int .i64 0, .int .i64 0, .int .i64 0, .bool false, .int .i64 0], .bool false]) (by simp [results, Tryd.results43, go_sem, z0, z1, z2, z3, z4]) rfl ?_
          rw [HO.out]
          exact ⟨rfl, below_set5 hw7 w.heap.size (Nat.le_refl _) _ _ _ _ _⟩
  | true =>
    go_wp2_with fail
    refine (HN1.out _).mono ?_
    rintro e w5 ⟨rfl, rfl⟩
    go_wp2_with fail
    refine (HN2.out _).mono ?_
    rintro e w5 ⟨rfl, rfl⟩
    go_wp2_with fail
    refine (HN3.out _).mono ?_
    rintro e w5 ⟨rfl, rfl⟩
    go_wp2_with fail
    refine (HN4.out _).mono ?_
    rintro e w5 ⟨rfl, rfl⟩
    go_upto_region 13 with fail
    have hE4 := EZ.new w4 ⟨t, d, g, a4 == [111, 110], q⟩ 26
    have hA5 := box_below (w4.alloc (Obj.cells #[.int .i64 t, .int .i64 d, .int .i64 g, .bool (a4 == [111, 110]), .int .i64 q] 26)) (Obj.cells #[.bool o1, .bool o2, .bool o3, .bool o4] 83)
    have hA4 := box_below w4 (Obj.cells #[.int .i64 t, .int .i64 d, .int .i64 g, .bool (a4 == [111, 110]), .int .i64 q] 26)
    have E5 := hE4.below hA5 (by simp)
    have h45 := hA4.trans (hA5.mono hA4.size)
    have hw5 := hw4.trans (h45.mono hsz4)
    have Z5 := Z4.below h45 Z4.lt
    have hR := hid_parts t d g (a4 == [111, 110]) q o1 o2 o3 o4 s
    have hP := HP3.out
    simp only [if_true] at hP
    rw [← hP] at hR
    obtain ⟨x0, x1, x2, x3⟩ := A4.new (w4.alloc (Obj.cells #[.int .i64 t, .int .i64 d, .int .i64 g, .bool (a4 == [111, 110]), .int .i64 q] 26)) o1 o2 o3 o4 83
    rw [World.size_alloc] at x0 x1 x2 x3
    clear hE4 hA5 hA4 hP HP3 Z4 h45 HN1 HN2 HN3 HN4
    generalize (w4.alloc (Obj.cells #[.int .i64 t, .int .i64 d, .int .i64 g, .bool (a4 == [111, 110]), .int .i64 q] 26)).alloc (Obj.cells #[.bool o1, .bool o2, .bool o3, .bool o4] 83) = W5 at *
    generalize (a4 == [111, 110]) = vb at *
    obtain ⟨hR1, hR2, hR3, hR4⟩ := hR
    have hs5 := hw5.size
    have l5 := E5.lt
    cases ho : (o1 && o2 && o3 && o4) with
    | false =>
      have HO := Lib.hid (hR1 ho)
      clear hR1 hR2 hR3 hR4
      obtain ⟨⟨z0, z1, z2, z3, z4⟩, -, y0, y1, y2, y3, y4⟩ := id Z5
      simp only [Nat.zero_add] at z1 z2 z3 z4
      go_wp2
      refine bodyPost_ret (v := .tuple #[.agg #[.int .i64 0, .int .i64 0, .int .i64 0, .bool false, .int .i64 0], .bool false]) (by simp [results, Tryd.results43, go_sem, z0, z1, z2, z3, z4]) rfl ?_
      rw [HO.out]
      exact ⟨rfl, below_set5 hw5 w.heap.size (Nat.le_refl _) _ _ _ _ _⟩
    | true =>
      have CG := fun W => good_any ⟨t, d, g, vb, q⟩ W
      have CL := line_any ⟨t, d, g, vb, q⟩
      cases hg : goodB ⟨t, d, g, vb, q⟩ with
      | false =>
        have HO := Lib.hid (hR2 hg)
        rw [hg] at CG
        unfold Ev.cells at CG
        dsimp only at CG
        have HCG := Lib.hid CG
        obtain ⟨⟨q0, q1, q2, q3, q4⟩, -⟩ := id E5
        clear hR1 hR2 hR3 hR4 CG CL
        go_wp2_with fail
        refine (HCG.out _).mono ?_
        rintro e w6 ⟨rfl, hb6⟩
        have hw6 := hw5.trans (hb6.mono hs5)
        have Z6 := Z5.below hb6 Z5.lt
        obtain ⟨⟨z0, z1, z2, z3, z4⟩, -, y0, y1, y2, y3, y4⟩ := id Z6
        simp only [Nat.zero_add] at z1 z2 z3 z4
        go_wp2
        refine bodyPost_ret (v := .tuple #[.agg #[.int .i64 0, .int .i64 0, .int .i64 0, .bool false, .int .i64 0], .bool false]) (by simp [results, Tryd.results43, go_sem, z0, z1, z2, z3, z4]) rfl ?_
        rw [HO.out]
        exact ⟨rfl, below_set5 hw6 w.heap.size (Nat.le_refl _) _ _ _ _ _⟩
      | true =>
        have hR4' := hR4 ho hg
        rw [hg] at CG
        unfold Ev.cells at CG CL
        dsimp only at CG CL
        have HCG := Lib.hid CG
        have HCL := Lib.hid CL
        have HG := Lib.hid hg
        have HR3 := Lib.hid hR3
        have HR4 := Lib.hid hR4'
        obtain ⟨⟨q0, q1, q2, q3, q4⟩, -⟩ := id E5
        clear hR1 hR2 hR3 hR4 CG CL hg hR4'
        go_wp2_with fail
        refine (HCG.out _).mono ?_
        rintro e w6 ⟨rfl, hb6⟩
        have hw6 := hw5.trans (hb6.mono hs5)
        have Z6 := Z5.below hb6 Z5.lt
        have E6 := E5.below hb6 l5
        clear q0 q1 q2 q3 q4
        obtain ⟨⟨q0, q1, q2, q3, q4⟩, -⟩ := id E6
        go_wp2_with fail
        refine (HCL.out w6 (HT.out.below hw6) HG.out).mono ?_
        rintro e w7 ⟨rfl, hb7⟩
        have hw7 := hw6.trans (hb7.mono hw6.size)
        have Z7 := Z6.below hb7 Z6.lt
        have E7 := E6.below hb7 E6.lt
        clear q0 q1 q2 q3 q4
        obtain ⟨⟨q0, q1, q2, q3, q4⟩, -⟩ := id E7
        have hr3 := HR3.out
        have hr4 := HR4.out
        generalize lineS ⟨t, d, g, vb, q⟩ = ls at *
        by_cases hls : ls = s
        · have HO := Lib.hid (hr4 hls)
          subst hls
          clear hr3 hr4
          obtain ⟨⟨z0, z1, z2, z3, z4⟩, -, y0, y1, y2, y3, y4⟩ := id Z7
          simp only [Nat.zero_add] at z1 z2 z3 z4
          go_wp2
          refine bodyPost_ret (v := .tuple #[.agg #[.int .i64 t, .int .i64 d, .int .i64 g, .bool vb, .int .i64 q], .bool true]) (by simp [results, Tryd.results43, go_sem, z0, z1, z2, z3, z4]) rfl ?_
          rw [HO.out]
          exact ⟨rfl, below_set5 hw7 w.heap.size (Nat.le_refl _) _ _ _ _ _⟩
        · have HO := Lib.hid (hr3 hls)
          have hne : (ls == s) = false := by simpa using hls
          clear hr3 hr4
          obtain ⟨⟨z0, z1, z2, z3, z4⟩, -, y0, y1, y2, y3, y4⟩ := id Z7
          simp only [Nat.zero_add] at z1 z2 z3 z4
          go_wp2
          refine bodyPost_ret (v := .tuple #[.agg #[.int .i64 0, .int .i64 0, .int .i64 0, .bool false, .int .i64 0], .bool false]) (by simp [results, Tryd.results43, go_sem, z0, z1, z2, z3, z4]) rfl ?_
          rw [HO.out]
          exact ⟨rfl, below_set5 hw7 w.heap.size (Nat.le_refl _) _ _ _ _ _⟩
end Go.Proofs.YtcoablindoknpaaDoor
