/-
  The reference's Wants (out of RK, for texts that do without Check).
-/
import Derived.Test.YtcikenlflcofbaaGreatDoorRN
namespace Go.Proofs.YtcikenlflcofbaaGreatDoor
open Go.RowKit

/-- The wanted kinds of an operation's operands, and its result's kind. -/
def wantL (op : Int) : List Int := if op = 16 then [1, 0, 0] else List.replicate (arityP op).toNat (sigP op).1
def wantR (op : Int) : Int := if op = 16 then 0 else (sigP op).2
def RetWants (op : Int) (w : World) (e : Ending) (w' : World) : Prop := ∃ A, e = .returned (.tuple #[.slice A (wantL op).length (wantL op).length, .int .i64 (wantR op)]) ∧ Rws IntC 1 w' w'.heap.size A (wantL op).length (wantL op) ∧ Below w.heap.size w w'
theorem rws_ints (w : World) (l : List Int) (hw : ∀ n ∈ l, (Lit.int .i64 n).wf = true) : Rws IntC 1 (w.alloc (Obj.cells (l.map fun n => Value.int .i64 n).toArray 3)) (w.alloc (Obj.cells (l.map fun n => Value.int .i64 n).toArray 3)).heap.size (some ⟨w.heap.size, 0, Option.none⟩) l.length l := by
  refine ⟨rfl, fun _ => ⟨w.heap.size, 0, rfl, by rw [World.size_alloc]; omega, fun k x hx => ⟨[.int .i64 x], rfl, ⟨rfl, hw x (List.mem_of_getElem? hx)⟩, ?_⟩⟩⟩
  intro j v hv
  obtain rfl : j = 0 := by have := (List.getElem?_eq_some_iff.1 hv).1; simp at this; omega
  obtain rfl : v = .int .i64 x := by simpa using hv.symm
  rw [cell_of_row _ w.heap.size _ _ _ (0, 0) (heap_alloc_new w _)]
  simp [hx]

set_option maxRecDepth 100000 in
set_option maxHeartbeats 4000000 in
theorem rwants_any (op : Int) (w : World) (h1 : 1 ≤ op) (h2 : op ≤ 22) (h3 : op ≠ 3) : Calls Tryz.prog 72 #[.int .i64 op] w (RetWants op w) := by
  have hop : op = 1 ∨ op = 2 ∨ op = 4 ∨ op = 17 ∨ op = 18 ∨ op = 19 ∨ op = 20 ∨ op = 5 ∨ op = 6 ∨ op = 7 ∨ op = 21 ∨ op = 22 ∨ op = 8 ∨ op = 9 ∨ op = 10 ∨ op = 11 ∨ op = 12 ∨ op = 13 ∨ op = 14 ∨ op = 15 ∨ op = 16 := by omega
  clear h1 h2 h3
  rcases hop with rfl | rfl | rfl | rfl | rfl | rfl | rfl | rfl | rfl | rfl | rfl | rfl | rfl | rfl | rfl | rfl | rfl | rfl | rfl | rfl | rfl
  · go_enter Tryz.func72, Tryz.ntmps72
    go_wp2
    exact bodyPost_ret (v := .tuple #[.slice Option.none 0 0, .int .i64 1]) (by simp [results, Tryz.results72, go_sem]) rfl ⟨_, rfl, ⟨rfl, fun h => absurd h (Nat.lt_irrefl 0)⟩, Below.refl _ _⟩
  · go_enter Tryz.func72, Tryz.ntmps72
    go_wp2
    exact bodyPost_ret (v := .tuple #[.slice Option.none 0 0, .int .i64 2]) (by simp [results, Tryz.results72, go_sem]) rfl ⟨_, rfl, ⟨rfl, fun h => absurd h (Nat.lt_irrefl 0)⟩, Below.refl _ _⟩
  · go_enter Tryz.func72, Tryz.ntmps72
    go_wp2
    exact bodyPost_ret (v := .tuple #[.slice (some ⟨w.heap.size, 0, Option.none⟩) 1 1, .int .i64 1]) (by simp [results, Tryz.results72, go_sem]) rfl ⟨_, rfl, rws_ints w [1] (by decide), box_below w _⟩
  · go_enter Tryz.func72, Tryz.ntmps72
    go_wp2
    exact bodyPost_ret (v := .tuple #[.slice (some ⟨w.heap.size, 0, Option.none⟩) 1 1, .int .i64 1]) (by simp [results, Tryz.results72, go_sem]) rfl ⟨_, rfl, rws_ints w [1] (by decide), box_below w _⟩
  · go_enter Tryz.func72, Tryz.ntmps72
    go_wp2
    exact bodyPost_ret (v := .tuple #[.slice (some ⟨w.heap.size, 0, Option.none⟩) 1 1, .int .i64 1]) (by simp [results, Tryz.results72, go_sem]) rfl ⟨_, rfl, rws_ints w [1] (by decide), box_below w _⟩
  · go_enter Tryz.func72, Tryz.ntmps72
    go_wp2
    exact bodyPost_ret (v := .tuple #[.slice (some ⟨w.heap.size, 0, Option.none⟩) 1 1, .int .i64 1]) (by simp [results, Tryz.results72, go_sem]) rfl ⟨_, rfl, rws_ints w [1] (by decide), box_below w _⟩
  · go_enter Tryz.func72, Tryz.ntmps72
    go_wp2
    exact bodyPost_ret (v := .tuple #[.slice (some ⟨w.heap.size, 0, Option.none⟩) 1 1, .int .i64 1]) (by simp [results, Tryz.results72, go_sem]) rfl ⟨_, rfl, rws_ints w [1] (by decide), box_below w _⟩
  · go_enter Tryz.func72, Tryz.ntmps72
    go_wp2
    exact bodyPost_ret (v := .tuple #[.slice (some ⟨w.heap.size, 0, Option.none⟩) 2 2, .int .i64 1]) (by simp [results, Tryz.results72, go_sem]) rfl ⟨_, rfl, rws_ints w [1, 1] (by decide), box_below w _⟩
  · go_enter Tryz.func72, Tryz.ntmps72
    go_wp2
    exact bodyPost_ret (v := .tuple #[.slice (some ⟨w.heap.size, 0, Option.none⟩) 2 2, .int .i64 1]) (by simp [results, Tryz.results72, go_sem]) rfl ⟨_, rfl, rws_ints w [1, 1] (by decide), box_below w _⟩
  · go_enter Tryz.func72, Tryz.ntmps72
    go_wp2
    exact bodyPost_ret (v := .tuple #[.slice (some ⟨w.heap.size, 0, Option.none⟩) 2 2, .int .i64 1]) (by simp [results, Tryz.results72, go_sem]) rfl ⟨_, rfl, rws_ints w [1, 1] (by decide), box_below w _⟩
  · go_enter Tryz.func72, Tryz.ntmps72
    go_wp2
    exact bodyPost_ret (v := .tuple #[.slice (some ⟨w.heap.size, 0, Option.none⟩) 2 2, .int .i64 1]) (by simp [results, Tryz.results72, go_sem]) rfl ⟨_, rfl, rws_ints w [1, 1] (by decide), box_below w _⟩
  · go_enter Tryz.func72, Tryz.ntmps72
    go_wp2
    exact bodyPost_ret (v := .tuple #[.slice (some ⟨w.heap.size, 0, Option.none⟩) 2 2, .int .i64 2]) (by simp [results, Tryz.results72, go_sem]) rfl ⟨_, rfl, rws_ints w [1, 1] (by decide), box_below w _⟩
  · go_enter Tryz.func72, Tryz.ntmps72
    go_wp2
    exact bodyPost_ret (v := .tuple #[.slice (some ⟨w.heap.size, 0, Option.none⟩) 2 2, .int .i64 1]) (by simp [results, Tryz.results72, go_sem]) rfl ⟨_, rfl, rws_ints w [2, 2] (by decide), box_below w _⟩
  · go_enter Tryz.func72, Tryz.ntmps72
    go_wp2
    exact bodyPost_ret (v := .tuple #[.slice (some ⟨w.heap.size, 0, Option.none⟩) 2 2, .int .i64 1]) (by simp [results, Tryz.results72, go_sem]) rfl ⟨_, rfl, rws_ints w [2, 2] (by decide), box_below w _⟩
  · go_enter Tryz.func72, Tryz.ntmps72
    go_wp2
    exact bodyPost_ret (v := .tuple #[.slice (some ⟨w.heap.size, 0, Option.none⟩) 2 2, .int .i64 1]) (by simp [results, Tryz.results72, go_sem]) rfl ⟨_, rfl, rws_ints w [2, 2] (by decide), box_below w _⟩
  · go_enter Tryz.func72, Tryz.ntmps72
    go_wp2
    exact bodyPost_ret (v := .tuple #[.slice (some ⟨w.heap.size, 0, Option.none⟩) 2 2, .int .i64 2]) (by simp [results, Tryz.results72, go_sem]) rfl ⟨_, rfl, rws_ints w [2, 2] (by decide), box_below w _⟩
  · go_enter Tryz.func72, Tryz.ntmps72
    go_wp2
    exact bodyPost_ret (v := .tuple #[.slice (some ⟨w.heap.size, 0, Option.none⟩) 2 2, .int .i64 2]) (by simp [results, Tryz.results72, go_sem]) rfl ⟨_, rfl, rws_ints w [2, 2] (by decide), box_below w _⟩
  · go_enter Tryz.func72, Tryz.ntmps72
    go_wp2
    exact bodyPost_ret (v := .tuple #[.slice (some ⟨w.heap.size, 0, Option.none⟩) 2 2, .int .i64 2]) (by simp [results, Tryz.results72, go_sem]) rfl ⟨_, rfl, rws_ints w [2, 2] (by decide), box_below w _⟩
  · go_enter Tryz.func72, Tryz.ntmps72
    go_wp2
    exact bodyPost_ret (v := .tuple #[.slice (some ⟨w.heap.size, 0, Option.none⟩) 2 2, .int .i64 2]) (by simp [results, Tryz.results72, go_sem]) rfl ⟨_, rfl, rws_ints w [2, 2] (by decide), box_below w _⟩
  · go_enter Tryz.func72, Tryz.ntmps72
    go_wp2
    exact bodyPost_ret (v := .tuple #[.slice (some ⟨w.heap.size, 0, Option.none⟩) 1 1, .int .i64 2]) (by simp [results, Tryz.results72, go_sem]) rfl ⟨_, rfl, rws_ints w [2] (by decide), box_below w _⟩
  · go_enter Tryz.func72, Tryz.ntmps72
    go_wp2
    exact bodyPost_ret (v := .tuple #[.slice (some ⟨w.heap.size, 0, Option.none⟩) 3 3, .int .i64 0]) (by simp [results, Tryz.results72, go_sem]) rfl ⟨_, rfl, rws_ints w [1, 0, 0] (by decide), box_below w _⟩

end Go.Proofs.YtcikenlflcofbaaGreatDoor
