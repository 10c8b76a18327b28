/-
  A map with string keys and plain elements that the call itself made, told by a plain function: what a look-up gives, what a store makes of it, and when it stays. No program is named here.
-/
import Derived.Test.YtmbmngnnfkdngaaGreatDoorBase
import Derived.Maps.OwnSet
import Derived.Maps.Views
import Derived.StringKeys
namespace Go.Proofs.YtmbmngnnfkdngaaGreatDoor
open Go.RowKit

/-- Block b is a map of at most n entries that holds f s under each string s. -/
def MapS (P : Program) (k e : TypeId) (w : World) (b n : Nat) (f : ByteArray → Option Value) : Prop :=
  ∃ D : DataW Unit, w.ownsMap P k (plainElem P e) b n D ∧ ∀ s : ByteArray, s.size ≤ maxLen → Maps.has D (.string s.data.toList) = (f s).isSome ∧ ∀ v, f s = some v → ∃ y : DataW Unit × List MemPlace, plainElem P e v = some y ∧ ∀ zd, D.atKey (.string s.data.toList) zd = y.1

section
variable {P : Program} {k e t : TypeId} {w w' : World} {b n : Nat} {f : ByteArray → Option Value}

theorem MapS.made (P : Program) (k e : TypeId) (w : World) : MapS P k e (w.alloc (.map #[] 0)) w.heap.size 0 (fun _ => Option.none) :=
  ⟨.map [], World.ownsMap_made w P k _, fun s _ => ⟨rfl, fun v hv => by cases hv⟩⟩

theorem MapS.block (h : MapS P k e w b n f) : b < w.heap.size := by
  obtain ⟨D, ⟨es, clock, hb, _⟩, _⟩ := h
  rcases Nat.lt_or_ge b w.heap.size with hlt | hge
  · exact hlt
  · rw [Array.getElem?_eq_none hge] at hb; cases hb

theorem MapS.kept (h : MapS P k e w b n f) (hb : w'.heap[b]? = w.heap[b]?) : MapS P k e w' b n f := by
  obtain ⟨D, ⟨es, clock, hb', F, hs, hD⟩, hf⟩ := h
  exact ⟨D, ⟨es, clock, hb.trans hb', F, hs, hD⟩, hf⟩
theorem MapS.below (h : MapS P k e w b n f) {B : Nat} (hb : Below B w w') (hB : b < B) : MapS P k e w' b n f := h.kept (hb.block b hB)
theorem MapS.drew (h : MapS P k e w b n f) : MapS P k e w.drew b n f := h.kept rfl
theorem MapS.alloc (h : MapS P k e w b n f) (o : Obj) : MapS P k e (w.alloc o) b n f := h.kept (Below.heap_alloc w o b h.block)
theorem MapS.more (h : MapS P k e w b n f) {n' : Nat} (hn : n ≤ n') : MapS P k e w b n' f := by
  obtain ⟨D, h1, h2⟩ := h
  exact ⟨D, h1.mono hn, h2⟩

/-- Two plain elements that read alike are one. -/
theorem plain_inj {v v' : Value} {y y' : DataW Unit × List MemPlace} (h : plainElem P e v = some y) (h' : plainElem P e v' = some y') (hy : y.1 = y'.1) : v = v' := by
  unfold plainElem at h h'
  cases hu : P.underlying e with
  | none => rw [hu] at h; simp at h
  | some d =>
    rw [hu] at h h'
    split at h
    · split at h'
      · cases h; cases h'; simp at hy; rw [hy]
      · simp_all
      · simp_all
      · cases h'
    · rename_i q q' a hq
      split at h'
      · simp_all
      · rename_i q2 q2' a2 hq2
        split at h
        · split at h'
          · rename_i h1 h2
            cases h; cases h'
            simp only [Option.some.injEq] at hq hq2
            simp at hy
            obtain ⟨rfl, _⟩ := h1
            obtain ⟨rfl, _⟩ := h2
            rw [hy.1, hy.2]
          · cases h'
        · cases h
      · simp_all
      · cases h'
    · split at h'
      · simp_all
      · simp_all
      · split at h
        · split at h'
          · cases h; cases h'
            simp at hy
            exact congrArg Value.string (WideShapes.bytes_inj (by simp [hy]))
          · cases h'
        · cases h
      · cases h'
    · cases h

theorem MapS.look (h : MapS P k e w b n f) (hk : P.underlying k = some .string) (ht : P.underlying t = some (.map k e)) {z : Value} (hz : (zeroValue e).run P w = .ok z w) {s : ByteArray} (hs : s.size ≤ maxLen) (c : Bool) :
    (Instr.lookup t (.map (some b)) (.string s) c).run P w = .ok (if c then .tuple #[(f s).getD z, .bool (f s).isSome] else (f s).getD z) w := by
  obtain ⟨D, ⟨es, clock, hb, F, _, hD⟩, hf⟩ := h
  obtain ⟨hhas, hval⟩ := hf s hs
  rcases Maps.fit_look c (Maps.string_keyed hk) ht hz hb F (WideMaps.keyOf_string_mk hk hs) with ⟨hrun, _, hat⟩ | ⟨e0, y, _, _, hrun, hR, hat, _⟩
  · rw [← hD] at hat
    have h1 := Maps.has_false_of_atKey hat
    rw [h1] at hhas
    cases hfs : f s with
    | none => rw [hrun]; simp
    | some v => rw [hfs] at hhas; simp at hhas
  · rw [← hD] at hat
    have h1 := Maps.has_true_of_atKey hat
    rw [h1] at hhas
    cases hfs : f s with
    | none => rw [hfs] at hhas; simp at hhas
    | some v =>
      obtain ⟨y', hy', hat'⟩ := hval v hfs
      have : e0.val = v := plain_inj hR hy' (by rw [← hat y.1, ← hat' y.1])
      rw [hrun, this]; simp

/-- The function behind a store. -/
def putS (f : ByteArray → Option Value) (s : ByteArray) (v : Value) : ByteArray → Option Value := fun x => if x.toList = s.toList then some v else f x

theorem toList_data (s : ByteArray) : s.toList = s.data.toList := by
  exact ByteArray.toList_eq s

theorem MapS.store (h : MapS P k e w b n f) (hk : P.underlying k = some .string) (ht : P.underlying t = some (.map k e)) (hn : n < maxLen) {s : ByteArray} (hs : s.size ≤ maxLen) {v : Value} {y : DataW Unit × List MemPlace} (hv : plainElem P e v = some y) :
    ∃ w', (Instr.mapUpdate t (.map (some b)) (.string s) v).run P w = .ok () w' ∧ MapS P k e w' b (n + 1) (putS f s v) ∧ w.grownBy w' (some b) := by
  obtain ⟨D, hown, hf⟩ := h
  obtain ⟨w', hrun, hown', hturn⟩ := hown.store (Maps.string_keyed hk) ht hn (WideMaps.keyOf_string_mk hk hs) (d := y.1) (ps := y.2) hv
  refine ⟨w', hrun, ⟨_, hown', fun x hx => ?_⟩, hturn.grown⟩
  have hkl : WideAt.IsKeyLit (.string s.data.toList) := (Maps.string_keyed (P := P) hk).key (WideMaps.keyOf_string_mk hk hs)
  by_cases hxs : x.toList = s.toList
  · have he : x.data.toList = s.data.toList := by rw [← toList_data, ← toList_data, hxs]
    simp only [putS, if_pos hxs]
    rw [he]
    refine ⟨by rw [Maps.has_put_same hown.isMap hkl]; rfl, fun v' hv' => ?_⟩
    cases hv'
    exact ⟨y, hv, fun zd => Maps.atKey_put_same hown.isMap hkl _ _⟩
  · have hne : (Lit.string x.data.toList) ≠ .string s.data.toList := by
      intro he
      injection he with he
      exact hxs (by rw [toList_data, toList_data, he])
    simp only [putS, if_neg hxs]
    obtain ⟨h1, h2⟩ := hf x hx
    refine ⟨by rw [Maps.has_put_other hne]; exact h1, fun v' hv' => ?_⟩
    obtain ⟨y', hy', hat⟩ := h2 v' hv'
    exact ⟨y', hy', fun zd => by rw [Maps.atKey_put_other hne]; exact hat zd⟩
end
end Go.Proofs.YtmbmngnnfkdngaaGreatDoor
