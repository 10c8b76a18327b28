/-
  The sanity check of the laws of layer 28, and 'same'.
-/
import Derived.Test.YtcikenlflcofbaaGreatDoorRuns
namespace Go.Proofs.YtcikenlflcofbaaGreatDoor
open Go.RowKit

def dPg : Pg := ⟨rIn, [[114]], [⟨19, 1⟩], [⟨30, 0⟩, ⟨19, 0⟩, ⟨32, 0⟩]⟩
theorem dCmp : cmpP (rRl [100, 101, 108, 97, 121, 40, 97, 44, 32, 49, 41]) rIn = (dPg, 0, 0) := by kernel_rfl
theorem dRun : runS dPg (one [1, 1, 0, 1]) = (one [0, 1, 0, 0], 0) := by kernel_rfl
/-- Ints in a box. -/
theorem ints_box (w : World) (xs : List Int) (cs : Array Value) (hcs : cs.toList = xs.map (Value.int .i64)) (hn : xs.length ≤ 1000) : Rw IaC 1 (w.alloc (.cells cs 3)) (Old (w.alloc (.cells cs 3))) (some ⟨w.heap.size, 0, Option.none⟩) xs.length xs := by
  have hl : cs.size = xs.length * 1 := by rw [← Array.length_toList, hcs, List.length_map, Nat.mul_one]
  exact rw_box (R := IaC) (size := 1) w 3 xs (fun z => [Value.int .i64 z]) cs (by rw [hcs, List.map_eq_flatMap]) hl (by unfold maxLen; omega) (fun _ _ => rfl) (fun _ _ => rfl)
set_option maxRecDepth 100000 in
set_option maxHeartbeats 8000000 in
theorem known28_any (w : World) (hw : Lw w) : Calls Tryz.prog 6 #[] w (RetB true w) := by
  have hb := box_below w (Obj.cells #[.int .i64 1, .int .i64 1, .int .i64 0, .int .i64 1] 3)
  have hc := runs_any [100, 101, 108, 97, 121, 40, 97, 44, 32, 49, 41] [1, 1, 0, 1] [0, 1, 0, 0] (some ⟨w.heap.size, 0, Option.none⟩) 4 (p := dPg) (w.alloc (Obj.cells #[.int .i64 1, .int .i64 1, .int .i64 0, .int .i64 1] 3)) (hw.below hb) (by decide) (ints_box w _ _ rfl (by decide)) (by decide) dCmp dRun rfl
  have HC := Lib.hid hc
  have HB := Lib.hid hb
  clear hc hb
  go_enter Tryz.func6, Tryz.ntmps6
  go_wp2_with fail
  refine HC.out.mono ?_
  rintro e w1 ⟨A, c, rfl, hc4, hm, hr, hb1⟩
  obtain ⟨b0, o0, x0, hA0, hS0, hx0, y0⟩ := iaAt hr (show 0 < 4 by decide)
  obtain ⟨b1, o1, x1, hA1, hS1, hx1, y1⟩ := iaAt hr (show 1 < 4 by decide)
  obtain ⟨b2, o2, x2, hA2, hS2, hx2, y2⟩ := iaAt hr (show 2 < 4 by decide)
  obtain ⟨b3, o3, x3, hA3, hS3, hx3, y3⟩ := iaAt hr (show 3 < 4 by decide)
  subst hA0
  injection hA1 with hA1
  injection hA1 with q1 q2
  subst q1
  subst q2
  injection hA2 with hA2
  injection hA2 with q1 q2
  subst q1
  subst q2
  injection hA3 with hA3
  injection hA3 with q1 q2
  subst q1
  subst q2
  cases hx0
  cases hx1
  cases hx2
  cases hx3
  rw [Nat.add_zero] at y0
  have HB1 := Lib.hid (below_two HB.out hb1 HB.out.size)
  clear hr hb1 hS0 hS1 hS2 hS3 hc4 hm
  dsimp only [List.length_cons, List.length_nil]
  go_wp2
  go_ret
  exact ⟨rfl, HB1.out⟩
end Go.Proofs.YtcikenlflcofbaaGreatDoor
