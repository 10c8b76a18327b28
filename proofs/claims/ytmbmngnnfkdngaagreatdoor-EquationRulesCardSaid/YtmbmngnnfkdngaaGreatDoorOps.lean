/-
  Small functions of the program on operations and words.
-/
import Derived.Test.YtmbmngnnfkdngaaGreatDoorProg
import Derived.Test.YtmbmngnnfkdngaaGreatDoorMem
namespace Go.Proofs.YtmbmngnnfkdngaaGreatDoor
open Go.RowKit

def RetStr (l : List UInt8) (w : World) (e : Ending) (w' : World) : Prop := e = .returned (.string ⟨l.toArray⟩) ∧ Below w.heap.size w w'
def RetI (n : Int) (w : World) (e : Ending) (w' : World) : Prop := e = .returned (.int .i64 n) ∧ Below w.heap.size w w'
def RetIs (n : Int) (w : World) (e : Ending) (w' : World) : Prop := e = .returned (.int .i64 n) ∧ w = w'
def RetBs (b : Bool) (w : World) (e : Ending) (w' : World) : Prop := e = .returned (.bool b) ∧ w = w'
theorem ret_bool {a b : Bool} (h : a = b) : Ending.returned (.bool a) = .returned (.bool b) := by rw [h]

set_option maxRecDepth 100000 in
set_option maxHeartbeats 4000000 in
theorem arity_any (op : Int) (w : World) : Calls Tryz.prog 77 #[.int .i64 op] w (RetIs (arityP op) w) := by
  by_cases hr : 1 ≤ op ∧ op ≤ 22
  · have hop : op = 1 ∨ op = 2 ∨ op = 3 ∨ op = 4 ∨ op = 5 ∨ op = 6 ∨ op = 7 ∨ op = 8 ∨ op = 9 ∨ op = 10 ∨ op = 11 ∨ op = 12 ∨ op = 13 ∨ op = 14 ∨ op = 15 ∨ op = 16 ∨ op = 17 ∨ op = 18 ∨ op = 19 ∨ op = 20 ∨ op = 21 ∨ op = 22 := by omega
    clear hr
    rcases hop with rfl | rfl | rfl | rfl | rfl | rfl | rfl | rfl | rfl | rfl | rfl | rfl | rfl | rfl | rfl | rfl | rfl | rfl | rfl | rfl | rfl | rfl
    all_goals
      go_enter Tryz.func77, Tryz.ntmps77
      go_wp2
      go_ret
      exact ⟨rfl, rfl⟩
  · have ha : arityP op = -1 := by unfold arityP; rw [if_neg (by omega), if_neg (by omega), if_neg (by omega), if_neg (by omega)]
    have HA := Lib.hid ha
    clear ha
    rcases (by omega : op < 1 ∨ 22 < op) with h | h
    all_goals
      clear hr
      go_enter Tryz.func77, Tryz.ntmps77
      go_wp2
      go_ret
      exact ⟨ret_int HA.out.symm, rfl⟩
end Go.Proofs.YtmbmngnnfkdngaaGreatDoor
