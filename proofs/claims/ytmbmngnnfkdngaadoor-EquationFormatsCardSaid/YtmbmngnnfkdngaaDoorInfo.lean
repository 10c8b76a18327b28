/-
  Words that several texts share: what a type's table says; sources of append out of rows; signals' cells.
-/
import Derived.Test.YtmbmngnnfkdngaaDoorTable
namespace Go.Proofs.YtmbmngnnfkdngaaDoor
open Go.RowKit

theorem flatMap_get {α : Type} {f : α → List Value} {size : Nat} : ∀ (xs : List α) (i : Nat) (u : Value), (∀ x ∈ xs, (f x).length = size) → (xs.flatMap f)[i]? = some u → ∃ k j x, xs[k]? = some x ∧ (f x)[j]? = some u ∧ i = k * size + j
  | [], i, u, _, h => by simp at h
  | y :: xs, i, u, h, hu => by
    have hy := h y (List.mem_cons_self ..)
    rw [List.flatMap_cons] at hu
    by_cases hi : i < size
    · rw [List.getElem?_append_left (by omega)] at hu
      exact ⟨0, i, y, rfl, hu, by omega⟩
    · rw [List.getElem?_append_right (by omega), hy] at hu
      obtain ⟨k, j, x, h1, h2, h3⟩ := flatMap_get xs (i - size) u (fun z hz => h z (List.mem_cons_of_mem _ hz)) hu
      exact ⟨k + 1, j, x, h1, h2, by rw [Nat.succ_mul]; omega⟩
theorem flatMap_len {α : Type} {f : α → List Value} {size : Nat} : ∀ (xs : List α), (∀ x ∈ xs, (f x).length = size) → (xs.flatMap f).length = xs.length * size
  | [], _ => by simp
  | y :: xs, h => by
    rw [List.flatMap_cons, List.length_append, h y (List.mem_cons_self ..), flatMap_len xs (fun z hz => h z (List.mem_cons_of_mem _ hz)), List.length_cons, Nat.succ_mul]; omega
theorem src_rw {α : Type} {R : World → (Nat → Prop) → List Value → α → Prop} {size n : Nat} {w : World} {S : Nat → Prop} {A : Option Addr} {xs : List α} {f : α → List Value} (h : Rw R size w S A n xs) (hR : ∀ cs x, R w S cs x → cs = f x) (hf : ∀ x ∈ xs, (f x).length = size) : Src w size A n (xs.flatMap f) := by
  refine ⟨by rw [flatMap_len xs hf, h.1], fun hn => ?_⟩
  obtain ⟨b, o, e, _, hr⟩ := h.2 hn
  refine ⟨⟨b, o, Option.none⟩, e, fun i u hu => ?_⟩
  obtain ⟨k, j, x, hk, hj, rfl⟩ := flatMap_get xs i u hf hu
  obtain ⟨cs, _, hb, hat⟩ := hr k x hk
  obtain rfl := hR cs x hb
  rw [Addr.add_mid]
  have := hat j u hj
  rw [Nat.add_assoc] at this
  exact this
theorem src_kept {w w' : World} {size b n : Nat} {xs : List Value} (h : Src w size (some ⟨b, 0, Option.none⟩) n xs) (hb : w'.heap[b]? = w.heap[b]?) : Src w' size (some ⟨b, 0, Option.none⟩) n xs := by
  refine ⟨h.1, fun hn => ?_⟩
  obtain ⟨ad, he, hc⟩ := h.2 hn
  cases he
  refine ⟨_, rfl, fun j v hv => ?_⟩
  have := hc j v hv
  rw [← this]
  exact World.cell?_of_block (a := Addr.add ⟨b, 0, Option.none⟩ j) (by rw [Addr.add_mid]; exact hb)
def sgCells (s : Sg) : List Value := [.string ⟨s.nm.toArray⟩, .int .i64 s.kind]
theorem sgCells_one (env : List Sg) : ∀ u ∈ env.flatMap sgCells, u.oneCell' = true := by
  intro u hu
  obtain ⟨s, _, hs⟩ := List.mem_flatMap.1 hu
  simp only [sgCells, List.mem_cons, List.not_mem_nil, or_false] at hs
  rcases hs with rfl | rfl <;> rfl
theorem sgCells_one1 (s : Sg) : ∀ u ∈ sgCells s, u.oneCell' = true := by
  intro u hu
  simp only [sgCells, List.mem_cons, List.not_mem_nil, or_false] at hu
  rcases hu with rfl | rfl <;> rfl
theorem infoSg : (Tryd.prog.info? 37).map (fun i => (i.zero, i.size, i.bytes)) = some (some (.agg #[.string ⟨#[]⟩, .int .i64 0]), 2, 24) := by kernel_rfl
theorem info_parts {t : TypeId} {z : Value} {s b : Nat} (h : (Tryd.prog.info? t).map (fun i => (i.zero, i.size, i.bytes)) = some (some z, s, b)) : ∃ i, Tryd.prog.info? t = some i ∧ i.zero = some z ∧ i.size = s ∧ i.bytes = b := by
  cases hi : Tryd.prog.info? t with
  | none => rw [hi] at h; cases h
  | some i =>
    rw [hi] at h
    simp only [Option.map_some, Option.some.injEq, Prod.mk.injEq] at h
    exact ⟨i, rfl, h.1, h.2.1, h.2.2⟩
theorem infoInt : (Tryd.prog.info? 3).map (fun i => (i.zero, i.size, i.bytes)) = some (some (.int .i64 0), 1, 8) := by kernel_rfl
end Go.Proofs.YtmbmngnnfkdngaaDoor
