/-
  The law EquationCanonical: for every text the call returns true.
-/
import Derived.Test.YtmbmngnnfkdngaaDoorLaws
namespace Go.Proofs.YtmbmngnnfkdngaaDoor
open Go.RowKit

set_option maxRecDepth 100000 in
set_option maxHeartbeats 4000000 in
theorem canonical_any (t : List UInt8) (w : World) (hw : Lw w) (hm : t.length ≤ maxLen) : Calls Tryd.prog 5 #[.string ⟨t.toArray⟩] w (RetB true w) := by
  have HW := Lib.hid hw
  by_cases hlt : 300 < t.length
  · unfold maxLen at hm
    have d0 : (300 : Int) < (t.length : Int) := by omega
    have HK := Lib.hid (known_any w hw)
    clear hw
    go_enter Tryd.func5, Tryd.ntmps5
    go_wp2_with fail
    refine HK.out.mono ?_
    rintro e w1 ⟨rfl, hb1⟩
    go_wp2
    go_ret
    exact ⟨rfl, hb1⟩
  have d0 : ¬ (300 : Int) < (t.length : Int) := by omega
  have HC1 := Lib.hid (parse_in t w hm hw)
  have HV := Lib.hid (fun h => parse_valid (t := t) h)
  generalize parseP t = r at *
  obtain ⟨x, a, er⟩ := r
  dsimp only at HV HC1
  clear hm hlt hw
  go_enter Tryd.func5, Tryd.ntmps5
  go_wp2_with fail
  refine HC1.out.mono ?_
  rintro e w1 ⟨op, n, nm, A, c, ks, hx, rfl, hxi, hb1⟩
  have hbx := box_below w1 (Obj.cells #[.int .i64 op, .int .i64 n, .string ⟨nm.toArray⟩, .slice A ks.length c] 24)
  have HB1 := Lib.hid (below_two hb1 hbx hb1.size)
  have HI1 := Lib.hid (hxi.below hbx)
  have HX1 := Lib.hid (XV.new w1 op n nm A ks.length c)
  have HXE := Lib.hid hx
  clear hb1 hbx hxi hx HC1
  by_cases he : er = 0
  case neg =>
    have e1 : (er != 0) = true := by simp [he]
    have HK := Lib.hid (known_any _ (HW.out.below HB1.out))
    clear he
    go_wp2_with fail
    refine HK.out.mono ?_
    rintro e w3 ⟨rfl, hb3⟩
    go_wp2
    go_ret
    exact ⟨rfl, below_two HB1.out hb3 HB1.out.size⟩
  subst he
  have hvx : validP (.mk op n nm ks) = true := by rw [← HXE.out]; exact HV.out rfl
  have hfp : fmtP (.mk op n nm ks) = fmtG 16 (.mk op n nm ks) := by unfold fmtP; rw [if_pos hvx]
  have C2 := Format_in HI1.out (HW.out.below HB1.out)
  rw [hfp] at C2
  have hrt := fun h => parse_fmt hvx h
  have hln := fmt_len 16 _ (valid_ok hvx)
  obtain ⟨s, hs⟩ : ∃ s, fmtG 16 (.mk op n nm ks) = s := ⟨_, rfl⟩
  rw [hs] at C2 hrt hln hfp
  have HC2 := Lib.hid C2
  have HRT := Lib.hid hrt
  have HFP := Lib.hid hfp
  have HVX := Lib.hid hvx
  have hsl : s.length ≤ 171798691840 := by have e : 40 * 4 ^ 16 = 171798691840 := by decide
                                           omega
  clear C2 hrt hfp hvx hs hln HV
  go_wp2_with fail
  refine HC2.out.mono ?_
  rintro e w2 ⟨rfl, hb2⟩
  have HB2 := Lib.hid (below_two HB1.out hb2 HB1.out.size)
  have HI2 := Lib.hid (HI1.out.below hb2)
  have X2 := HX1.out.below hb2
  have HX2 := Lib.hid X2
  clear hb2 HC2 HI1 HX1 X2
  by_cases hl : 120 < s.length
  · have d1 : (120 : Int) < (s.length : Int) := by omega
    have HK := Lib.hid (known_any _ (HW.out.below HB2.out))
    clear hl
    go_wp2_with fail
    refine HK.out.mono ?_
    rintro e w3 ⟨rfl, hb3⟩
    obtain ⟨x0, x1, x2, x3, -, -, -, -⟩ := (HX2.out.below hb3).cells
    have C4 := Valid_in (HI2.out.below hb3)
    rw [HVX.out] at C4
    have HC4 := Lib.hid C4
    have HB3 := Lib.hid (below_two HB2.out hb3 HB2.out.size)
    clear C4 hb3
    go_wp2_with fail
    refine HC4.out.mono ?_
    rintro e w4 ⟨rfl, hb4⟩
    go_wp2
    go_ret
    exact ⟨rfl, below_two HB3.out hb4 HB3.out.size⟩
  have d1 : ¬ (120 : Int) < (s.length : Int) := by omega
  have C3 := parse_in s w2 (by unfold maxLen; omega) (HW.out.below HB2.out)
  rw [HRT.out (by omega)] at C3
  dsimp only at C3
  have HC3 := Lib.hid C3
  clear C3 hl HRT
  go_wp2_with fail
  refine HC3.out.mono ?_
  rintro e w3 ⟨op2, n2, nm2, A2, c2, ks2, hy, rfl, hyi, hb3⟩
  injection hy with q1 q2 q3 q4
  subst q1
  subst q2
  subst q3
  subst q4
  have hby := box_below w3 (Obj.cells #[.int .i64 op, .int .i64 n, .string ⟨nm.toArray⟩, .slice A2 ks.length c2] 24)
  have hb3y := below_two hb3 hby hb3.size
  have HB3 := Lib.hid (below_two HB2.out hb3y HB2.out.size)
  have HI3 := Lib.hid (HI2.out.below hb3y)
  have HJ3 := Lib.hid (hyi.below hby)
  have HX3 := Lib.hid (HX2.out.below hb3y)
  have HY3 := Lib.hid (XV.new w3 op n nm A2 ks.length c2)
  clear hb3 hby hb3y hyi HC3 HX2 HI2
  go_wp2_with fail
  generalize w3.alloc (Obj.cells #[.int .i64 op, .int .i64 n, .string ⟨nm.toArray⟩, .slice A2 ks.length c2] 24) = W3 at *
  have HK := Lib.hid (known_any W3 (HW.out.below HB3.out))
  refine HK.out.mono ?_
  rintro e w4 ⟨rfl, hb4⟩
  obtain ⟨x0, x1, x2, x3, -, -, -, -⟩ := (HX3.out.below hb4).cells
  have C4 := Valid_in (HI3.out.below hb4)
  rw [HVX.out] at C4
  have HC4 := Lib.hid C4
  have HB4 := Lib.hid (below_two HB3.out hb4 HB3.out.size)
  have HI4 := Lib.hid (HI3.out.below hb4)
  have HJ4 := Lib.hid (HJ3.out.below hb4)
  have HX4 := Lib.hid (HX3.out.below hb4)
  have HY4 := Lib.hid (HY3.out.below hb4)
  clear C4 hb4 HK HI3 HJ3 HX3 HY3
  go_wp2_with fail
  refine HC4.out.mono ?_
  rintro e w5 ⟨rfl, hb5⟩
  clear x0 x1 x2 x3
  obtain ⟨x0, x1, x2, x3, -, -, -, -⟩ := (HX4.out.below hb5).cells
  obtain ⟨y0, y1, y2, y3, -, -, -, -⟩ := (HY4.out.below hb5).cells
  have HC5 := Lib.hid (same_in (HI4.out.below hb5) (HJ4.out.below hb5))
  have HB5 := Lib.hid (below_two HB4.out hb5 HB4.out.size)
  have HJ5 := Lib.hid (HJ4.out.below hb5)
  have HY5 := Lib.hid (HY4.out.below hb5)
  clear hb5 HC4 HI4 HJ4 HX4 HY4
  go_wp2_with fail
  refine HC5.out.mono ?_
  rintro e w6 ⟨rfl, hb6⟩
  clear x0 x1 x2 x3 y0 y1 y2 y3
  obtain ⟨y0, y1, y2, y3, -, -, -, -⟩ := (HY5.out.below hb6).cells
  have C6 := Format_in (HJ5.out.below hb6) ((HW.out.below HB5.out).below hb6)
  rw [HFP.out] at C6
  have HC6 := Lib.hid C6
  have HB6 := Lib.hid (below_two HB5.out hb6 HB5.out.size)
  have dss : (s == s) = true := by simp
  clear hb6 C6 HC5 HJ5 HY5
  go_wp2_with fail
  refine HC6.out.mono ?_
  rintro e w7 ⟨rfl, hb7⟩
  go_wp2
  go_ret
  exact ⟨rfl, below_two HB6.out hb7 HB6.out.size⟩
end Go.Proofs.YtmbmngnnfkdngaaDoor
