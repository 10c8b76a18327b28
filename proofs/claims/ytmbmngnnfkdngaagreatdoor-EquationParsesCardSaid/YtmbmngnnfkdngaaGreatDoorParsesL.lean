/-
  The law EquationParses: for every text the call returns true.
-/
import Derived.Test.YtmbmngnnfkdngaaGreatDoorRdQ
namespace Go.Proofs.YtmbmngnnfkdngaaGreatDoor
open Go.RowKit

set_option maxRecDepth 100000 in
set_option maxHeartbeats 4000000 in
theorem parses_any (t : List UInt8) (w : World) (hw : Lw w) (hm : t.length ≤ maxLen) : Calls Tryz.prog 3 #[.string ⟨t.toArray⟩] w (RetB true w) := by
  have HW := Lib.hid hw
  by_cases hlt : 300 < t.length
  · unfold maxLen at hm
    have d0 : (300 : Int) < (t.length : Int) := by omega
    have HK := Lib.hid (known_any w hw)
    clear hw
    go_enter Tryz.func3, Tryz.ntmps3
    go_wp2_with fail
    refine HK.out.mono ?_
    rintro e w1 ⟨rfl, hb1⟩
    go_wp2
    go_ret
    exact ⟨rfl, hb1⟩
  have d0 : ¬ (300 : Int) < (t.length : Int) := by omega
  have HC1 := Lib.hid (parse_in t w hm hw)
  have HC2 := Lib.hid (fun W => rparse_in t W)
  have HN1 := Lib.hid (fun W => name_any t W hm)
  have HN2 := Lib.hid (fun W => rname_any t W hm)
  unfold RetPq at HC2
  generalize parseP t = r at *
  obtain ⟨x, a, er⟩ := r
  dsimp only at HC1 HC2
  generalize nameB t = nb at *
  clear hm hlt hw
  go_enter Tryz.func3, Tryz.ntmps3
  go_wp2_with fail
  refine HC1.out.mono ?_
  rintro e w1 ⟨op, n, nm, A, c, ks, hx, rfl, hxi, hb1⟩
  subst hx
  have hbx := box_below w1 (Obj.cells #[.int .i64 op, .int .i64 n, .string ⟨nm.toArray⟩, .slice A ks.length c] 25)
  have HB1 := Lib.hid (below_two hb1 hbx hb1.size)
  have HI1 := Lib.hid (hxi.below hbx)
  have HX1 := Lib.hid (XV.new w1 op n nm A ks.length c)
  clear hb1 hbx hxi HC1
  go_wp2_with fail
  refine (HC2.out _).mono ?_
  rintro e w2 ⟨op2, n2, nm2, A2, c2, ks2, hy, rfl, hyi, hb2⟩
  injection hy with q1 q2 q3 q4
  subst q1
  subst q2
  subst q3
  subst q4
  have hby := box_below w2 (Obj.cells #[.int .i64 op, .int .i64 n, .string ⟨nm.toArray⟩, .slice A2 ks.length c2] 25)
  have hb2y := below_two hb2 hby hb2.size
  have HB2 := Lib.hid (below_two HB1.out hb2y HB1.out.size)
  have HI2 := Lib.hid (HI1.out.below hb2y)
  have HJ2 := Lib.hid (hyi.below hby)
  have HX2 := Lib.hid (HX1.out.below hb2y)
  have HY2 := Lib.hid (XV.new w2 op n nm A2 ks.length c2)
  clear hb2 hby hb2y hyi HC2 HX1 HI1
  go_wp2_with fail
  generalize w2.alloc (Obj.cells #[.int .i64 op, .int .i64 n, .string ⟨nm.toArray⟩, .slice A2 ks.length c2] 25) = W2 at *
  have HK := Lib.hid (known_any W2 (HW.out.below HB2.out))
  refine HK.out.mono ?_
  rintro e w4 ⟨rfl, hb4⟩
  obtain ⟨x0, x1, x2, x3, -, -, -, -⟩ := (HX2.out.below hb4).cells
  obtain ⟨y0, y1, y2, y3, -, -, -, -⟩ := (HY2.out.below hb4).cells
  have HC5 := Lib.hid (same_in (HI2.out.below hb4) (HJ2.out.below hb4))
  have HB4 := Lib.hid (below_two HB2.out hb4 HB2.out.size)
  clear hb4 HK HI2 HJ2 HX2 HY2
  go_wp2_with fail
  refine HC5.out.mono ?_
  rintro e w5 ⟨rfl, hb5⟩
  have HB5 := Lib.hid (below_two HB4.out hb5 HB4.out.size)
  clear x0 x1 x2 x3 y0 y1 y2 y3 hb5 HC5
  go_wp2_with fail
  refine (HN1.out _).mono ?_
  rintro e w6 ⟨rfl, rfl⟩
  go_wp2_with fail
  refine (HN2.out _).mono ?_
  rintro e w7 ⟨rfl, hb7⟩
  have HB7 := Lib.hid (below_two HB5.out hb7 HB5.out.size)
  clear hb7
  go_wp2
  go_ret
  exact ⟨ret_bool (by simp), HB7.out⟩
end Go.Proofs.YtmbmngnnfkdngaaGreatDoor
