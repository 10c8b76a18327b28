/-
  'few' of the laws of layer 28.
-/
import Derived.Test.YtcikenlflcofbaaDoorK27
namespace Go.Proofs.YtcikenlflcofbaaDoor
open Go.RowKit

def few28P (rs : List Rl) (ins : List Sg) : Bool := !decide (16 < rs.length ∨ 20 < ins.length) && rs.all fun r => !decide (120 < r.text.length ∨ 20 < r.nm.length)
def FeS (w : World) (rs : List Rl) (g : Nat) (v : Value) (wr : World) : Prop :=
  ∃ k : Nat, k ≤ rs.length ∧ rs.length - k < g ∧ v = .int .i64 (k : Int) ∧ (rs.drop k).all (fun r => !decide (120 < r.text.length ∨ 20 < r.nm.length)) = rs.all (fun r => !decide (120 < r.text.length ∨ 20 < r.nm.length)) ∧ Below w.heap.size w wr
set_option maxRecDepth 100000 in
set_option maxHeartbeats 8000000 in
theorem few28_any (A : Option Addr) (c : Nat) (rs : List Rl) (A' : Option Addr) (c' : Nat) (ins : List Sg) (w : World) (hr : Rw RlC 2 w (fun b => b < w.heap.size) A rs.length rs) :
    Calls Tryd.prog 25 #[.slice A rs.length c, .slice A' ins.length c'] w (RetB (few28P rs ins) w) := by
  have HR := Lib.hid hr
  obtain ⟨r, hrr⟩ : ∃ r, few28P rs ins = r := ⟨_, rfl⟩
  rw [hrr]
  unfold few28P at hrr
  clear hr
  rcases (show (16 : Int) < (rs.length : Int) ∨ ((rs.length : Int) ≤ 16 ∧ (20 : Int) < (ins.length : Int)) ∨ ((rs.length : Int) ≤ 16 ∧ (ins.length : Int) ≤ 20) by omega) with d0 | ⟨d0, d1⟩ | ⟨d0, d1⟩
  case inr.inr =>
    rw [decide_eq_false (by omega)] at hrr
    have HRR := Lib.hid (show (rs.all fun r => !decide (120 < r.text.length ∨ 20 < r.nm.length)) = r by simpa using hrr)
    clear hrr
    go_enter Tryd.func25, Tryd.ntmps25
    go_wp2
    go_loopg [17] (rs.length + 1) (fun g v wr => FeS w rs g v wr)
    case atStart => exact ⟨0, Nat.zero_le _, by omega, rfl, by rw [List.drop_zero], Below.refl _ _⟩
    case round =>
      obtain ⟨k, hk, hgk, rfl, hall, hbel⟩ := hrel
      by_cases hlt : k < rs.length
      case pos =>
        obtain ⟨b, o, x, hA, hSb, hx, hxl, htl, y0, y1⟩ := rlAt (HR.out.mono RlC.mono (fun _ q => q) (keepOn_below hbel fun _ q => q)) hlt
        subst hA
        have hget : rs[k] = x := by
          rw [List.getElem?_eq_getElem hlt] at hx
          injection hx
        rw [List.drop_eq_getElem_cons hlt, hget, List.all_cons] at hall
        obtain ⟨nm, tx⟩ := x
        dsimp only at hxl htl y0 y1 hall
        have hbk : b < wr.heap.size := Nat.lt_of_lt_of_le hSb hbel.size
        have HB := Lib.hid (hbel.alloc hbel.size (Obj.cells #[.string ⟨nm.toArray⟩, .string ⟨tx.toArray⟩] 27))
        have HALL := Lib.hid hall
        unfold maxLen at hxl htl
        clear hall hx hget hbel hSb
        rcases (show (120 : Int) < (tx.length : Int) ∨ ((tx.length : Int) ≤ 120 ∧ (20 : Int) < (nm.length : Int)) ∨ ((tx.length : Int) ≤ 120 ∧ (nm.length : Int) ≤ 20) by omega) with e0 | ⟨e0, e1⟩ | ⟨e0, e1⟩
        case inr.inr =>
          have hall := HALL.out
          rw [decide_eq_false (by omega), Bool.not_false, Bool.true_and] at hall
          have HALL2 := Lib.hid hall
          clear hall HALL
          go_wp2
          go_roundg (rs.length - k)
          case measure => omega
          case rel => exact ⟨k + 1, by omega, by omega, by go_num, HALL2.out, HB.out⟩
        all_goals
          have HE := Lib.hid (show false = r by rw [← HRR.out, ← HALL.out, decide_eq_true (by omega)]; rfl)
          clear HALL HRR
          go_wp2
          go_ret
          exact ⟨ret_bool HE.out, HB.out⟩
      obtain rfl : k = rs.length := by omega
      rw [List.drop_length] at hall
      have HE := Lib.hid (show true = r by rw [← HRR.out, ← hall]; rfl)
      have HB := Lib.hid hbel
      clear hall hlt HRR hbel
      go_wp2
      go_ret
      exact ⟨ret_bool HE.out, HB.out⟩
  all_goals
    have HE := Lib.hid (show false = r by rw [← hrr, decide_eq_true (by omega)]; rfl)
    clear hrr
    go_enter Tryd.func25, Tryd.ntmps25
    go_wp2
    go_ret
    exact ⟨ret_bool HE.out, Below.refl _ _⟩
end Go.Proofs.YtcikenlflcofbaaDoor
