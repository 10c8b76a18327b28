/-
  Plain: the place of the first element that passes a test, or -1; what a search loop knows on its way.
-/
import Derived.Test.YtcoablindoknpaaDoorBase
namespace Go.Proofs.YtcoablindoknpaaDoor
open Go.RowKit

def idx {α : Type} (p : α → Bool) (xs : List α) : Int := match xs.findIdx? p with
  | some i => (i : Int)
  | Option.none => -1
/-- None of the first k passes. -/
def NoneYet {α : Type} (p : α → Bool) (xs : List α) (k : Nat) : Prop := ∀ j y, j < k → xs[j]? = some y → p y = false
theorem noneYet_zero {α : Type} (p : α → Bool) (xs : List α) : NoneYet p xs 0 := fun _ _ h => absurd h (Nat.not_lt_zero _)
theorem noneYet_succ {α : Type} {p : α → Bool} {xs : List α} {k : Nat} {x : α} (h : NoneYet p xs k) (hx : xs[k]? = some x) (hp : p x = false) : NoneYet p xs (k + 1) := by
  intro j y hj hy
  rcases Nat.lt_succ_iff_lt_or_eq.1 hj with h' | rfl
  · exact h j y h' hy
  · rw [hx] at hy; cases hy; exact hp
theorem idx_found {α : Type} {p : α → Bool} {xs : List α} {k : Nat} {x : α} (h : NoneYet p xs k) (hx : xs[k]? = some x) (hp : p x = true) : idx p xs = (k : Int) := by
  have hk : k < xs.length := (List.getElem?_eq_some_iff.1 hx).1
  have : xs.findIdx? p = some k := by
    rw [List.findIdx?_eq_some_iff_getElem]
    refine ⟨hk, ?_, fun j hj => ?_⟩
    · have : xs[k] = x := by rw [List.getElem?_eq_getElem hk] at hx; exact Option.some.inj hx
      rw [this]; exact hp
    · have := h j (xs[j]'(by omega)) hj (List.getElem?_eq_getElem (by omega))
      simp [this]
  simp [idx, this]
theorem idx_none {α : Type} {p : α → Bool} {xs : List α} (h : NoneYet p xs xs.length) : idx p xs = -1 := by
  have : xs.findIdx? p = Option.none := by
    rw [List.findIdx?_eq_none_iff]
    intro x hx
    obtain ⟨j, hj⟩ := List.getElem?_of_mem hx
    exact h j x ((List.getElem?_eq_some_iff.1 hj).1) hj
  simp [idx, this]
theorem idx_cases {α : Type} (p : α → Bool) (xs : List α) : (idx p xs = -1 ∧ ∀ x ∈ xs, p x = false) ∨ ∃ (k : Nat) (x : α), idx p xs = (k : Int) ∧ xs[k]? = some x ∧ p x = true ∧ NoneYet p xs k := by
  cases h : xs.findIdx? p with
  | none =>
    refine .inl ⟨by simp [idx, h], ?_⟩
    rw [List.findIdx?_eq_none_iff] at h
    intro x hx; simpa using h x hx
  | some k =>
    rw [List.findIdx?_eq_some_iff_getElem] at h
    obtain ⟨hk, h1, h2⟩ := h
    refine .inr ⟨k, xs[k], ?_, List.getElem?_eq_getElem hk, h1, fun j y hj hy => ?_⟩
    · exact idx_found (x := xs[k]) (fun j y hj hy => by
        have := h2 j hj
        rw [List.getElem?_eq_getElem (by omega)] at hy
        cases hy; simpa using this) (List.getElem?_eq_getElem hk) h1
    · have := h2 j hj
      rw [List.getElem?_eq_getElem (by omega)] at hy
      cases hy; simpa using this
theorem idx_lt {α : Type} (p : α → Bool) (xs : List α) : -1 ≤ idx p xs ∧ idx p xs < (xs.length : Int) := by
  rcases idx_cases p xs with ⟨h, _⟩ | ⟨k, x, h, hx, _⟩
  · rw [h]; omega
  · have := (List.getElem?_eq_some_iff.1 hx).1
    rw [h]; omega

/-- An int is returned; old memory is as it was. -/
def RetInt (n : Int) (w : World) (e : Ending) (w' : World) : Prop := e = .returned (.int .i64 n) ∧ Below w.heap.size w w'
/-- A search loop's relation. -/
def Seeking {α : Type} (p : α → Bool) (xs : List α) (B : Nat) (w1 : World) (i : Value) (wr : World) : Prop := ∃ k : Nat, k ≤ xs.length ∧ i = .int .i64 k ∧ NoneYet p xs k ∧ Below B w1 wr
end Go.Proofs.YtcoablindoknpaaDoor
