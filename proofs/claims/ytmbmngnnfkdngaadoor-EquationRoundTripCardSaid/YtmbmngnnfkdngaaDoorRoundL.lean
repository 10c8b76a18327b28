/-
  The law EquationRoundTrip: for every expression the call returns true.
-/
import Derived.Test.YtmbmngnnfkdngaaDoorSmall
namespace Go.Proofs.YtmbmngnnfkdngaaDoor
open Go.RowKit

set_option maxRecDepth 100000 in
set_option maxHeartbeats 4000000 in
theorem round_any (op n : Int) (nm : List UInt8) (A : Option Addr) (c : Nat) (ks : List Ex) (w : World) (hw : Lw w) (hxi : XI w op n nm A c ks) : Calls Tryd.prog 4 #[.agg #[.int .i64 op, .int .i64 n, .string ⟨nm.toArray⟩, .slice A ks.length c]] w (RetB true w) := by
  have HW := Lib.hid hw
  have hbx := box_below w (Obj.cells #[.int .i64 op, .int .i64 n, .string ⟨nm.toArray⟩, .slice A ks.length c] 24)
  have HB0 := Lib.hid hbx
  have HI0 := Lib.hid (hxi.below hbx)
  have HX0 := Lib.hid (XV.new w op n nm A ks.length c)
  have HC1 := Lib.hid (small_in (hxi.below hbx) 1)
  clear hw hxi hbx
  go_enter Tryd.func4, Tryd.ntmps4
  go_wp2_with fail
  refine HC1.out.mono ?_
  rintro e w1 ⟨b1, rfl, hb1⟩
  obtain ⟨x0, x1, x2, x3, -, -, -, -⟩ := (HX0.out.below hb1).cells
  have HB1 := Lib.hid (below_two HB0.out hb1 HB0.out.size)
  have HI1 := Lib.hid (HI0.out.below hb1)
  have HX1 := Lib.hid (HX0.out.below hb1)
  clear hb1 HC1 HB0 HI0 HX0
  cases b1 with
  | false =>
    have HK := Lib.hid (known_any _ (HW.out.below HB1.out))
    go_wp2_with fail
    refine HK.out.mono ?_
    rintro e w3 ⟨rfl, hb3⟩
    go_wp2
    go_ret
    exact ⟨rfl, below_two HB1.out hb3 HB1.out.size⟩
  | true =>
  have C2 := Valid_in HI1.out
  cases hvx : validP (.mk op n nm ks) with
  | false =>
    rw [hvx] at C2
    have HC2 := Lib.hid C2
    clear C2 hvx
    go_wp2_with fail
    refine HC2.out.mono ?_
    rintro e w2 ⟨rfl, hb2⟩
    have HB2 := Lib.hid (below_two HB1.out hb2 HB1.out.size)
    have HK := Lib.hid (known_any _ (HW.out.below HB2.out))
    clear hb2
    go_wp2_with fail
    refine HK.out.mono ?_
    rintro e w3 ⟨rfl, hb3⟩
    go_wp2
    go_ret
    exact ⟨rfl, below_two HB2.out hb3 HB2.out.size⟩
  | true =>
  rw [hvx] at C2
  have HC2 := Lib.hid C2
  have hfp : fmtP (.mk op n nm ks) = fmtG 16 (.mk op n nm ks) := by unfold fmtP; rw [if_pos hvx]
  have hrt := fun h => parse_fmt hvx h
  have hln := fmt_len 16 _ (valid_ok hvx)
  obtain ⟨s, hs⟩ : ∃ s, fmtG 16 (.mk op n nm ks) = s := ⟨_, rfl⟩
  rw [hs] at hrt hln hfp
  have HRT := Lib.hid hrt
  have HFP := Lib.hid hfp
  have hsl : s.length ≤ 171798691840 := by have e : 40 * 4 ^ 16 = 171798691840 := by decide
                                           omega
  clear C2 hvx hfp hrt hs hln
  go_wp2_with fail
  refine HC2.out.mono ?_
  rintro e w2 ⟨rfl, hb2⟩
  clear x0 x1 x2 x3
  obtain ⟨x0, x1, x2, x3, -, -, -, -⟩ := (HX1.out.below hb2).cells
  have HB2 := Lib.hid (below_two HB1.out hb2 HB1.out.size)
  have HI2 := Lib.hid (HI1.out.below hb2)
  have HX2 := Lib.hid (HX1.out.below hb2)
  clear hb2 HC2 HI1 HX1
  have C3 := Format_in HI2.out (HW.out.below HB2.out)
  rw [HFP.out] at C3
  have HC3 := Lib.hid C3
  clear C3
  go_wp2_with fail
  refine HC3.out.mono ?_
  rintro e w3 ⟨rfl, hb3⟩
  clear x0 x1 x2 x3
  obtain ⟨x0, x1, x2, x3, -, -, -, -⟩ := (HX2.out.below hb3).cells
  have HB3 := Lib.hid (below_two HB2.out hb3 HB2.out.size)
  have HI3 := Lib.hid (HI2.out.below hb3)
  have HX3 := Lib.hid (HX2.out.below hb3)
  clear hb3 HC3 HI2 HX2
  by_cases hl : 120 < s.length
  · have d1 : (120 : Int) < (s.length : Int) := by omega
    have HK := Lib.hid (known_any _ (HW.out.below HB3.out))
    go_wp2_with fail
    refine HK.out.mono ?_
    rintro e w4 ⟨rfl, hb4⟩
    go_wp2
    go_ret
    exact ⟨rfl, below_two HB3.out hb4 HB3.out.size⟩
  have d1 : ¬ (120 : Int) < (s.length : Int) := by omega
  have C4 := Format_in HI3.out (HW.out.below HB3.out)
  rw [HFP.out] at C4
  have HC4 := Lib.hid C4
  clear C4
  go_wp2_with fail
  refine HC4.out.mono ?_
  rintro e w4 ⟨rfl, hb4⟩
  have HB4 := Lib.hid (below_two HB3.out hb4 HB3.out.size)
  have HI4 := Lib.hid (HI3.out.below hb4)
  have HX4 := Lib.hid (HX3.out.below hb4)
  clear hb4 HC4 HI3 HX3 x0 x1 x2 x3
  have C5 := parse_in s w4 (by unfold maxLen; omega) (HW.out.below HB4.out)
  rw [HRT.out (by omega)] at C5
  dsimp only at C5
  have HC5 := Lib.hid C5
  clear C5 hl HRT
  go_wp2_with fail
  refine HC5.out.mono ?_
  rintro e w5 ⟨op2, n2, nm2, A2, c2, ks2, hy, rfl, hyi, hb5⟩
  injection hy with q1 q2 q3 q4
  subst q1
  subst q2
  subst q3
  subst q4
  have hby := box_below w5 (Obj.cells #[.int .i64 op, .int .i64 n, .string ⟨nm.toArray⟩, .slice A2 ks.length c2] 24)
  have hb5y := below_two hb5 hby hb5.size
  have HB5 := Lib.hid (below_two HB4.out hb5y HB4.out.size)
  have HI5 := Lib.hid (HI4.out.below hb5y)
  have HJ5 := Lib.hid (hyi.below hby)
  have HX5 := Lib.hid (HX4.out.below hb5y)
  have HY5 := Lib.hid (XV.new w5 op n nm A2 ks.length c2)
  clear hb5 hby hb5y hyi HC5 HX4 HI4
  go_wp2_with fail
  generalize w5.alloc (Obj.cells #[.int .i64 op, .int .i64 n, .string ⟨nm.toArray⟩, .slice A2 ks.length c2] 24) = W5 at *
  have HK := Lib.hid (known_any W5 (HW.out.below HB5.out))
  refine HK.out.mono ?_
  rintro e w6 ⟨rfl, hb6⟩
  obtain ⟨x0, x1, x2, x3, -, -, -, -⟩ := (HX5.out.below hb6).cells
  obtain ⟨y0, y1, y2, y3, -, -, -, -⟩ := (HY5.out.below hb6).cells
  have HC6 := Lib.hid (same_in (HI5.out.below hb6) (HJ5.out.below hb6))
  have HB6 := Lib.hid (below_two HB5.out hb6 HB5.out.size)
  clear hb6 HK HI5 HJ5 HX5 HY5
  go_wp2_with fail
  refine HC6.out.mono ?_
  rintro e w7 ⟨rfl, hb7⟩
  go_wp2
  go_ret
  exact ⟨rfl, below_two HB6.out hb7 HB6.out.size⟩
end Go.Proofs.YtmbmngnnfkdngaaDoor
