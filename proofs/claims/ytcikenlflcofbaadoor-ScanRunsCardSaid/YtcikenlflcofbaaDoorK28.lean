/-
  The sanity check of the laws of layer 28, and 'same'.
-/
import Derived.Test.YtcikenlflcofbaaDoorRuns
namespace Go.Proofs.YtcikenlflcofbaaDoor
open Go.RowKit

def dPg : Pg := ⟨rIn, [[114]], [⟨19, 1⟩], [⟨30, 0⟩, ⟨19, 0⟩, ⟨32, 0⟩]⟩
theorem dCmp : cmpP (rRl [100, 101, 108, 97, 121, 40, 97, 44, 32, 49, 41]) rIn = (dPg, 0, 0) := by kernel_rfl
theorem dRun : runS dPg (one [1, 1, 0, 1]) = (one [0, 1, 0, 0], 0) := by kernel_rfl
/-- Ints in a box. -/
theorem ints_box (w : World) (xs : List Int) (cs : Array Value) (hcs : cs.toList = xs.map (Value.int .i64)) (hn : xs.length ≤ 1000) : Rw IaC 1 (w.alloc (.cells cs 3)) (Old (w.alloc (.cells cs 3))) (some ⟨w.heap.size, 0, Option.none⟩) xs.length xs := by
  have hl : cs.size = xs.length * 1 := by rw [← Array.length_toList, hcs, List.length_map, Nat.mul_one]
  exact rw_box (R := IaC) (size := 1) w 3 xs (fun z => [Value.int .i64 z]) cs (by rw [hcs, List.map_eq_flatMap]) hl (by unfold maxLen; omega) (fun _ _ => rfl) (fun _ _ => rfl)
set_option maxRecDepth 100000 in
set_option maxHeartbeats 8000000 in
theorem known28_any (w : World) (hw : Lw w) : Calls Tryd.prog 19 #[] w (RetB true w) := by
  have hb := box_below w (Obj.cells #[.int .i64 1, .int .i64 1, .int .i64 0, .int .i64 1] 3)
  have hc := runs_any [100, 101, 108, 97, 121, 40, 97, 44, 32, 49, 41] [1, 1, 0, 1] [0, 1, 0, 0] (some ⟨w.heap.size, 0, Option.none⟩) 4 (p := dPg) (w.alloc (Obj.cells #[.int .i64 1, .int .i64 1, .int .i64 0, .int .i64 1] 3)) (hw.below hb) (by decide) (ints_box w _ _ rfl (by decide)) (by decide) dCmp dRun rfl
  have HC := Lib.hid hc
  have HB := Lib.hid hb
  clear hc hb
  go_enter Tryd.func19, Tryd.ntmps19
  go_wp2_with fail
  refine HC.out.mono ?_
  rintro e w1 ⟨A, c, rfl, hc4, hm, hr, hb1⟩
  obtain ⟨b0, o0, x0, hA0, hS0, hx0, y0⟩ := iaAt hr (show 0 < 4 by decide)
  obtain ⟨b1, o1, x1, hA1, hS1, hx1, y1⟩ := iaAt hr (show 1 < 4 by decide)
  obtain ⟨b2, o2, x2, hA2, hS2, hx2, y2⟩ := iaAt hr (show 2 < 4 by decide)
  obtain ⟨b3, o3, x3, hA3, hS3, hx3, y3⟩ := iaAt hr (show 3 < 4 by decide)
  subst hA0
  injection hA1 with hA1
  injection hA1 with q1 q2
  subst q1
  subst q2
  injection hA2 with hA2
  injection hA2 with q1 q2
  subst q1
  subst q2
  injection hA3 with hA3
  injection hA3 with q1 q2
  subst q1
  subst q2
  cases hx0
  cases hx1
  cases hx2
  cases hx3
  rw [Nat.add_zero] at y0
  have HB1 := Lib.hid (below_two HB.out hb1 HB.out.size)
  clear hr hb1 hS0 hS1 hS2 hS3 hc4 hm
  dsimp only [List.length_cons, List.length_nil]
  go_wp2
  go_ret
  exact ⟨rfl, HB1.out⟩
def SaR (w : World) (xs ys : List Int) (g : Nat) (v : Value) (wr : World) : Prop := ∃ k : Nat, k ≤ xs.length ∧ xs.length - k < g ∧ v = .int .i64 (k : Int) ∧ xs.take k = ys.take k ∧ Below w.heap.size w wr
set_option maxRecDepth 100000 in
set_option maxHeartbeats 8000000 in
theorem same28_any (A B : Option Addr) (c c' : Nat) (xs ys : List Int) (w : World) (hx : Rw IaC 1 w (Old w) A xs.length xs) (hy : Rw IaC 1 w (Old w) B ys.length ys) (hmx : xs.length ≤ maxLen) :
    Calls Tryd.prog 23 #[.slice A xs.length c, .slice B ys.length c'] w (RetB (decide (xs = ys)) w) := by
  obtain ⟨r, hr⟩ : ∃ r, decide (xs = ys) = r := ⟨_, rfl⟩
  rw [hr]
  have HX := Lib.hid hx
  have HY := Lib.hid hy
  have HR := Lib.hid hr
  clear hx hy hr
  by_cases hl : xs.length = ys.length
  case neg =>
    have HE := Lib.hid (show false = r by rw [← HR.out, eq_comm, decide_eq_false_iff_not]; exact fun q => hl (by rw [q]))
    have hb : ((xs.length : Int) != (ys.length : Int)) = true := by simp; omega
    clear hl
    go_enter Tryd.func23, Tryd.ntmps23
    go_wp2
    go_ret
    exact ⟨ret_bool HE.out, Below.refl _ _⟩
  have hb : ((xs.length : Int) != (ys.length : Int)) = false := by simp; omega
  have HL := Lib.hid hl
  have hle : xs.length ≤ ys.length := by omega
  clear hl
  go_enter Tryd.func23, Tryd.ntmps23
  go_wp2
  go_loopg [13] (xs.length + 1) (fun g v wr => SaR w xs ys g v wr)
  case atStart => exact ⟨0, Nat.zero_le _, by omega, rfl, rfl, Below.refl _ _⟩
  case round =>
    obtain ⟨k, hk, hgk, rfl, htk, hbel⟩ := hrel
    have HTK := Lib.hid htk
    have HBL := Lib.hid hbel
    by_cases hlt : k < xs.length
    case neg =>
      obtain rfl : k = xs.length := by omega
      have HE := Lib.hid (show true = r by
        rw [← HR.out, eq_comm, decide_eq_true_eq]
        have := HTK.out
        rw [List.take_length, List.take_of_length_le (by rw [HL.out]; exact Nat.le_refl _)] at this
        exact this)
      clear htk hbel hlt
      go_wp2
      go_ret
      exact ⟨ret_bool HE.out, HBL.out⟩
    have hlt2 : k < ys.length := by omega
    obtain ⟨b, o, x, hA, hSb, hx, y0⟩ := iaAt (HX.out.mono IaC.mono (fun _ q => q) (keepOn_below hbel fun _ q => q)) hlt
    obtain ⟨b', o', y, hA', hSb', hy, u0⟩ := iaAt (HY.out.mono IaC.mono (fun _ q => q) (keepOn_below hbel fun _ q => q)) hlt2
    subst hA
    subst hA'
    have hi1 : (k : Int) < (xs.length : Int) := by omega
    have hi2 : (k : Int) < (ys.length : Int) := by omega
    have hm3 : (k : Int) + 1 < 9223372036854775808 := by unfold maxLen at hmx; omega
    have HXY := Lib.hid (And.intro hx hy)
    clear htk hbel hx hy hSb hSb'
    by_cases hq : x = y
    · subst hq
      go_upto_region 6 with fail
      go_region
      go_wp2
      go_roundg (xs.length - k)
      case measure => omega
      case rel => exact ⟨k + 1, by omega, by omega, by go_num, by rw [List.take_add_one, List.take_add_one, HTK.out, HXY.out.1, HXY.out.2], below_drew HBL.out⟩
    · have hb2 : (x != y) = true := by simpa using hq
      have HE := Lib.hid (show false = r by
        rw [← HR.out, eq_comm, decide_eq_false_iff_not]
        intro q
        have h1 := HXY.out.1
        rw [q, HXY.out.2] at h1
        injection h1 with h1
        exact hq h1.symm)
      clear hq
      go_upto_region 6 with fail
      go_region
      go_wp2
      go_ret
      exact ⟨ret_bool HE.out, below_drew HBL.out⟩
end Go.Proofs.YtcikenlflcofbaaDoor
