/-
  The law EquationBrackets: for every text the call returns true.
-/
import Derived.Test.YtmbmngnnfkdngaaDoorKnown
import Derived.Test.YtmbmngnnfkdngaaDoorBrackP
namespace Go.Proofs.YtmbmngnnfkdngaaDoor
open Go.RowKit

/-- An expression that a call handed back lies in memory. -/
theorem rw_new {w w1 W : World} {A : Option Addr} {n : Nat} {ks : List Ex} (h : Rw ExV 4 w1 (New w w1) A n ks) (hb : Below w1.heap.size w1 W) : Rw ExV 4 W (fun b => b < W.heap.size) A n ks :=
  h.mono ExV.mono (fun _ hb' => Nat.lt_of_lt_of_le hb'.2 hb.size) (keepOn_below hb fun _ hb' => hb'.2)

set_option maxRecDepth 100000 in
set_option maxHeartbeats 4000000 in
theorem brackets_any (t : List UInt8) (w : World) (hw : Lw w) (hm : t.length ≤ maxLen) : Calls Tryd.prog 6 #[.string ⟨t.toArray⟩] w (RetB true w) := by
  have HW := Lib.hid hw
  by_cases hlt : 116 < t.length
  · unfold maxLen at hm
    have d0 : (116 : Int) < (t.length : Int) := by omega
    have HK := Lib.hid (known_any w hw)
    clear hw
    go_enter Tryd.func6, Tryd.ntmps6
    go_wp2_with fail
    refine HK.out.mono ?_
    rintro e w1 ⟨rfl, hb1⟩
    go_wp2
    go_ret
    exact ⟨rfl, hb1⟩
  have d0 : ¬ (116 : Int) < (t.length : Int) := by omega
  have C1 := Parse_any t w hm hw
  have C2 := fun W hW => Parse_any (brack t) W (by rw [brack_len]; unfold maxLen; omega) hW
  have hbk : (parseP t).2.2 = 0 → parseP (brack t) = ((parseP t).1, 0, 0) := fun h => parse_brack (t := t) (a := (parseP t).2.1) (by omega) (by rw [← h])
  generalize parseP t = r at *
  generalize parseP (brack t) = r2 at *
  obtain ⟨x, a, er⟩ := r
  obtain ⟨y, a2, er2⟩ := r2
  dsimp only at hbk
  have HC1 := Lib.hid C1
  have HC2 := Lib.hid C2
  have HBK := Lib.hid hbk
  have hcat : ({ data := #[32, 40] } : ByteArray) ++ { data := t.toArray } = ⟨([32, 40] ++ t).toArray⟩ := cat_list [32, 40] t
  have hcat2 : ({ data := ([32, 40] ++ t).toArray } : ByteArray) ++ { data := #[41, 32] } = ⟨(brack t).toArray⟩ := cat_list ([32, 40] ++ t) [41, 32]
  obtain ⟨sv, hsv⟩ : ∃ sv, [32, 40] ++ t = sv := ⟨_, rfl⟩
  have hsl : sv.length ≤ 118 := by rw [← hsv]; simp; omega
  rw [hsv] at hcat hcat2
  obtain ⟨bt, hbt⟩ : ∃ bt, brack t = bt := ⟨_, rfl⟩
  rw [hbt] at hcat2 HC2
  clear C1 C2 hbk hsv hbt hm hlt hw
  go_enter Tryd.func6, Tryd.ntmps6
  go_wp2_with fail
  refine HC1.out.mono ?_
  rintro e w1 ⟨op, n, nm, A, c, ks, hx, rfl, hc, hmx, hp, hr, hb1⟩
  dsimp only at hx ⊢
  unfold exV
  have hbx := box_below w1 (Obj.cells #[.int .i64 op, .int .i64 n, .string ⟨nm.toArray⟩, .slice A ks.length c] 24)
  have HB1 := Lib.hid (below_two hb1 hbx hb1.size)
  have HR1 := Lib.hid (rw_new hr hbx)
  have HX1 := Lib.hid (XV.new w1 op n nm A ks.length c)
  have HXE := Lib.hid hx
  have hs1 := HB1.out.size
  have hs1' := hb1.size
  clear hr hb1 hbx HC1 hx
  go_wp2_with fail
  refine (HC2.out _ (HW.out.below HB1.out)).mono ?_
  rintro e w2 ⟨op2, n2, nm2, A2, c2, ks2, hy, rfl, hc2, hmy, hp2, hr2, hb2⟩
  dsimp only at hy ⊢
  unfold exV
  have hby := box_below w2 (Obj.cells #[.int .i64 op2, .int .i64 n2, .string ⟨nm2.toArray⟩, .slice A2 ks2.length c2] 24)
  have hb2y := below_two hb2 hby hb2.size
  have HB2 := Lib.hid (below_two HB1.out hb2y hs1)
  have HR1' := Lib.hid (HR1.out.mono (S' := fun b => b < (w2.alloc (Obj.cells #[.int .i64 op2, .int .i64 n2, .string ⟨nm2.toArray⟩, .slice A2 ks2.length c2] 24)).heap.size) ExV.mono (fun b hb => Nat.lt_of_lt_of_le hb hb2y.size) (keepOn_below hb2y fun b hb => hb))
  have HR2 := Lib.hid (rw_new hr2 hby)
  have HX1' := Lib.hid (HX1.out.grown (grown_of_below (row := Option.none) hb2y) (by simp))
  have HX2 := Lib.hid (XV.new w2 op2 n2 nm2 A2 ks2.length c2)
  have HYE := Lib.hid hy
  have hs2 := hb2.size
  simp only [World.size_alloc] at hs2
  clear hr2 hb2 hby hb2y HC2 hy HR1 HX1 hcat hcat2
  go_wp2_with fail
  generalize w2.alloc (Obj.cells #[.int .i64 op2, .int .i64 n2, .string ⟨nm2.toArray⟩, .slice A2 ks2.length c2] 24) = W2 at *
  have HK := Lib.hid (known_any W2 (HW.out.below HB2.out))
  refine HK.out.mono ?_
  rintro e w3 ⟨rfl, hb3⟩
  have HB3 := Lib.hid (below_two HB2.out hb3 HB2.out.size)
  obtain ⟨x0, x1, x2, x3, -, -, -, -⟩ := (HX1'.out.grown (grown_of_below (row := Option.none) hb3) (by simp)).cells
  obtain ⟨y0, y1, y2, y3, -, -, -, -⟩ := (HX2.out.grown (grown_of_below (row := Option.none) hb3) (by simp)).cells
  by_cases he : er = 0
  · obtain ⟨hxy, rfl, rfl⟩ : y = x ∧ a2 = 0 ∧ er2 = 0 := by have := HBK.out he; simpa using this
    have hEq : Ex.mk op2 n2 nm2 ks2 = Ex.mk op n nm ks := by rw [← HYE.out, ← HXE.out, hxy]
    injection hEq with q1 q2 q3 q4
    subst q1
    subst q2
    subst q3
    subst q4
    subst he
    obtain ⟨d, hd⟩ := rw_ex (HR1'.out.mono (S' := fun b => b < w3.heap.size) ExV.mono (fun b hb => Nat.lt_of_lt_of_le hb hb3.size) (keepOn_below hb3 fun b hb => hb))
    have C4 := same_eq d op2 n2 nm2 A A2 c c2 ks2 w3 (by unfold maxLen at hmx; omega) hd (HR2.out.mono (S' := fun b => b < w3.heap.size) ExV.mono (fun b hb => Nat.lt_of_lt_of_le hb hb3.size) (keepOn_below hb3 fun b hb => hb))
    unfold exV at C4
    have HC4 := Lib.hid C4
    clear C4 hd hb3 HK HX1' HX2 HR1' HR2 HXE HYE hxy HBK
    go_wp2_with fail
    refine HC4.out.mono ?_
    rintro e w4 ⟨rfl, hb4⟩
    go_wp2
    go_ret
    exact ⟨rfl, below_two HB3.out hb4 HB3.out.size⟩
  · have e1 : (er != 0) = true := by simp [he]
    clear hb3 HK HX1' HX2 HR1' HR2 HXE HYE HBK he
    go_wp2
    go_ret
    exact ⟨rfl, HB3.out⟩
end Go.Proofs.YtmbmngnnfkdngaaDoor
