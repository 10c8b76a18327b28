/-
  What a call's world holds at the library's own number.
-/
import Derived.Test.YtcoablindoknpaaDoorEvent
import Derived.Test.YtcoablindoknpaaDoorOpenEv
namespace Go.Proofs.YtcoablindoknpaaDoor
open Go.RowKit

theorem mx_of {W : World} (h : W.ShapedOpen Tryd.prog) : Mx W := by
  obtain ⟨m, hm⟩ := (Tryd.laysM219).s1_3 W h
  have hm' : W.cell? ⟨0, 0, Option.none⟩ = some (.int .i64 m) := hm
  refine ⟨⟨m, hm'⟩, ?_⟩
  rcases Nat.lt_or_ge 0 W.heap.size with h0 | h0
  · exact h0
  · simp only [World.cell?] at hm'
    rw [Array.getElem?_eq_none h0] at hm'
    cases hm'
end Go.Proofs.YtcoablindoknpaaDoor
