/-
  Sorting in place, plain: exchanging two neighbours of which the second precedes the first, or two such blocks, changes nothing of what insertion makes of the list; a sorted list stays as it is. No program is run here.
-/
import Derived.Test.YtcoablindoknpaaDoorMerge
namespace Go.Proofs.YtcoablindoknpaaDoor
open Go.RowKit

/-- What insertion, one after the other, makes of a list. -/
def stE (l : List Ev) : List Ev := insAll [] l
theorem before_asymm {a b : Ev} (h : beforeB a b = true) : beforeB b a = false := by
  have h1 := (before_iff a b).1 h
  rw [← Bool.not_eq_true]
  intro h2
  have h3 := (before_iff b a).1 h2
  omega
theorem before_trans {a b c : Ev} (h1 : beforeB a b = true) (h2 : beforeB b c = true) : beforeB a c = true := by
  have h1 := (before_iff a b).1 h1
  have h2 := (before_iff b c).1 h2
  refine (before_iff a c).2 ?_
  omega
theorem before_le {a b c : Ev} (h1 : beforeB a b = true) (h2 : leE b c) : beforeB a c = true := by
  have h1 := (before_iff a b).1 h1
  have h2 := (leE_iff b c).1 h2
  refine (before_iff a c).2 ?_
  omega
theorem le_before {a b c : Ev} (h1 : leE a b) (h2 : beforeB b c = true) : beforeB a c = true := by
  have h1 := (leE_iff a b).1 h1
  have h2 := (before_iff b c).1 h2
  refine (before_iff a c).2 ?_
  omega
theorem insE_comm {x y : Ev} (h : beforeB y x = true) (T : List Ev) : insE (insE T x) y = insE (insE T y) x := by
  have hxy := before_asymm h
  induction T using snoc_ind with
  | h0 =>
    have e1 : insE [x] y = insE ([] ++ [x]) y := rfl
    have e2 : insE [y] x = insE ([] ++ [y]) x := rfl
    rw [insE_nil, insE_nil, e1, e2, insE_snoc, insE_snoc, if_pos h, hxy, insE_nil]
    rfl
  | h1 T p ih =>
    rw [insE_snoc T p x, insE_snoc T p y]
    by_cases hx : beforeB x p = true
    · have hy := before_trans h hx
      rw [if_pos hx, if_pos hy, insE_snoc, insE_snoc, if_pos hy, if_pos hx, ih]
    · rw [if_neg hx, show T ++ [p, x] = (T ++ [p]) ++ [x] by simp, insE_snoc, if_pos h, insE_snoc T p y]
      by_cases hy : beforeB y p = true
      · rw [if_pos hy, insE_snoc, if_neg hx]
        simp
      · rw [if_neg hy, show T ++ [p, y] = (T ++ [p]) ++ [y] by simp, insE_snoc, hxy]
        simp
theorem st_swap {x y : Ev} (h : beforeB y x = true) (P S : List Ev) : stE (P ++ x :: y :: S) = stE (P ++ y :: x :: S) := by
  unfold stE
  rw [insAll_append, insAll_append]
  have e1 : ∀ T a b, insAll T (a :: b :: S) = insAll (insE (insE T a) b) S := fun _ _ _ => rfl
  rw [e1, e1, insE_comm h]
theorem st_move {v : Ev} (S : List Ev) : ∀ (U P : List Ev), (∀ u ∈ U, beforeB v u = true) → stE (P ++ (U ++ v :: S)) = stE (P ++ v :: (U ++ S))
  | [], _, _ => rfl
  | u :: U, P, h => by
    have ih := st_move S U (P ++ [u]) (fun x hx => h x (by simp [hx]))
    have e1 : P ++ (u :: U ++ v :: S) = P ++ [u] ++ (U ++ v :: S) := by simp
    have e2 : P ++ [u] ++ v :: (U ++ S) = P ++ u :: v :: (U ++ S) := by simp
    rw [e1, ih, e2, st_swap (h u (by simp))]
    rfl
theorem st_rot (S U : List Ev) : ∀ (V P : List Ev), (∀ u ∈ U, ∀ v ∈ V, beforeB v u = true) → stE (P ++ (U ++ (V ++ S))) = stE (P ++ (V ++ (U ++ S)))
  | [], _, _ => rfl
  | v :: V, P, h => by
    have ih := st_rot S U V (P ++ [v]) (fun u hu x hx => h u hu x (by simp [hx]))
    have e1 := st_move (v := v) (V ++ S) U P (fun u hu => h u hu v (by simp))
    have e2 : P ++ v :: (U ++ (V ++ S)) = P ++ [v] ++ (U ++ (V ++ S)) := by simp
    have e3 : P ++ [v] ++ (V ++ (U ++ S)) = P ++ (v :: V ++ (U ++ S)) := by simp
    rw [List.cons_append, e1, e2, ih, e3, List.cons_append]
theorem st_sorted (l : List Ev) (h : l.Pairwise leE) : stE l = l := by
  induction l using snoc_ind with
  | h0 => rfl
  | h1 l e ih =>
    rw [List.pairwise_append] at h
    obtain ⟨hl, -, hp⟩ := h
    have ih := ih hl
    unfold stE at *
    rw [insAll_append, ih, insAll_one]
    have key : ∀ l : List Ev, (∀ x ∈ l, leE x e) → insE l e = l ++ [e] := by
      intro l hx
      rcases List.eq_nil_or_concat l with rfl | ⟨l', p, rfl⟩
      · rfl
      · have hle : leE p e := hx p (by simp)
        rw [List.concat_eq_append, insE_snoc, if_neg (by unfold leE at hle; rw [hle]; decide)]
        simp
    exact key l (fun x hx => hp x hx e (by simp))

/-- The event at a place. -/
def at_ (es : List Ev) (i : Nat) : Ev := (es[i]?).getD ⟨0, 0, 0, false, 0⟩
theorem at_eq {es : List Ev} {i : Nat} {x : Ev} (h : es[i]? = some x) : at_ es i = x := by simp [at_, h]
theorem get_at {es : List Ev} {i : Nat} (h : i < es.length) : es[i]? = some (at_ es i) := by
  rw [List.getElem?_eq_getElem h, at_, List.getElem?_eq_getElem h]
  rfl
theorem list_ext {a b : List Ev} (hl : a.length = b.length) (h : ∀ i, i < a.length → at_ a i = at_ b i) : a = b := by
  apply List.ext_getElem?
  intro i
  by_cases hi : i < a.length
  · rw [get_at hi, get_at (by omega), h i hi]
  · rw [List.getElem?_eq_none (by omega), List.getElem?_eq_none (by omega)]
/-- es' is es with the places from a to b put in another order, alike for insertion. -/
structure Seg (es es' : List Ev) (a b : Nat) : Prop where
  len : es'.length = es.length
  out : ∀ i, i < a ∨ b ≤ i → at_ es' i = at_ es i
  src : ∀ i, a ≤ i → i < b → i < es.length → ∃ j, a ≤ j ∧ j < b ∧ j < es.length ∧ at_ es' i = at_ es j
  st : stE es' = stE es
theorem Seg.refl (es : List Ev) (a b : Nat) : Seg es es a b := ⟨rfl, fun _ _ => rfl, fun i h1 h2 h3 => ⟨i, h1, h2, h3, rfl⟩, rfl⟩
theorem Seg.trans {x y z : List Ev} {a b : Nat} (h1 : Seg x y a b) (h2 : Seg y z a b) : Seg x z a b := by
  refine ⟨h2.len.trans h1.len, fun i hi => (h2.out i hi).trans (h1.out i hi), fun i h3 h4 h5 => ?_, h2.st.trans h1.st⟩
  obtain ⟨j, j1, j2, j3, j4⟩ := h2.src i h3 h4 (by rw [h1.len]; exact h5)
  obtain ⟨k, k1, k2, k3, k4⟩ := h1.src j j1 j2 (by rw [← h1.len]; exact j3)
  exact ⟨k, k1, k2, k3, j4.trans k4⟩
theorem Seg.wide {x y : List Ev} {a b a' b' : Nat} (h : Seg x y a b) (ha : a' ≤ a) (hb : b ≤ b') : Seg x y a' b' := by
  refine ⟨h.len, fun i hi => h.out i (by omega), fun i h1 h2 h3 => ?_, h.st⟩
  by_cases hi : a ≤ i ∧ i < b
  · obtain ⟨j, j1, j2, j3, j4⟩ := h.src i hi.1 hi.2 h3
    exact ⟨j, by omega, by omega, j3, j4⟩
  · exact ⟨i, h1, h2, h3, h.out i (by omega)⟩
def SortedR (es : List Ev) (a b : Nat) : Prop := ∀ i j, a ≤ i → i < j → j < b → leE (at_ es i) (at_ es j)
theorem sorted_all {es : List Ev} (h : SortedR es 0 es.length) : es.Pairwise leE := by
  rw [List.pairwise_iff_getElem]
  intro i j hi hj hij
  have := h i j (Nat.zero_le _) hij hj
  rw [at_eq (List.getElem?_eq_getElem hi), at_eq (List.getElem?_eq_getElem hj)] at this
  exact this
theorem seg_done {es es' : List Ev} (h : Seg es es' 0 es.length) (hs : SortedR es' 0 es.length) : es' = stE es := by
  rw [← h.st, st_sorted es' (sorted_all (by rw [h.len]; exact hs))]
theorem Seg.sorted_out {x y : List Ev} {a b c d : Nat} (h : Seg x y a b) (hs : SortedR x c d) (ho : d ≤ a ∨ b ≤ c) : SortedR y c d := by
  intro i j h1 h2 h3
  rw [h.out i (by omega), h.out j (by omega)]
  exact hs i j h1 h2 h3

theorem swapAdj {es : List Ev} {j : Nat} (h1 : 0 < j) (h2 : j < es.length) (P S : List Ev) (x y : Ev) (he : es = P ++ x :: y :: S) (hP : P.length = j - 1) : (es.set j x).set (j - 1) y = P ++ y :: x :: S := by
  subst he
  rw [List.set_append_right _ _ (by omega), show j - P.length = 1 by omega]
  simp only [List.set_cons_succ, List.set_cons_zero]
  rw [List.set_append_right _ _ (by omega), show j - 1 - P.length = 0 by omega]
  rfl
theorem split_at {es : List Ev} {j : Nat} (h1 : 0 < j) (h2 : j < es.length) : es = es.take (j - 1) ++ at_ es (j - 1) :: at_ es j :: es.drop (j + 1) := by
  have e1 : es[j - 1] = at_ es (j - 1) := by rw [at_, List.getElem?_eq_getElem (by omega)]; rfl
  have e2 : es[j] = at_ es j := by rw [at_, List.getElem?_eq_getElem h2]; rfl
  conv => lhs; rw [← List.take_append_drop (j - 1) es, List.drop_eq_getElem_cons (show j - 1 < es.length by omega)]
  rw [show j - 1 + 1 = j by omega, List.drop_eq_getElem_cons h2, e1, e2]
theorem at_set (es : List Ev) (k i : Nat) (x : Ev) (hk : k < es.length) : at_ (es.set k x) i = if i = k then x else at_ es i := by
  unfold at_
  rw [List.getElem?_set]
  by_cases h : k = i
  · subst h; rw [if_pos rfl, if_pos hk, if_pos rfl]; rfl
  · rw [if_neg h, if_neg (fun e => h e.symm)]
/-- Two neighbours are exchanged, the second of which precedes the first. -/
theorem seg_adj {es : List Ev} {a b j : Nat} (h1 : a < j) (h2 : j < b) (h3 : j < es.length) (hb : beforeB (at_ es j) (at_ es (j - 1)) = true) : Seg es ((es.set j (at_ es (j - 1))).set (j - 1) (at_ es j)) a b := by
  have hat : ∀ i, at_ ((es.set j (at_ es (j - 1))).set (j - 1) (at_ es j)) i = if i = j - 1 then at_ es j else if i = j then at_ es (j - 1) else at_ es i := by
    intro i
    rw [at_set _ _ _ _ (by rw [List.length_set]; omega), at_set _ _ _ _ h3]
  refine ⟨by simp, fun i hi => ?_, fun i h4 h5 h6 => ?_, ?_⟩
  · rw [hat, if_neg (by omega), if_neg (by omega)]
  · rw [hat]
    by_cases e1 : i = j - 1
    · exact ⟨j, by omega, by omega, h3, by rw [if_pos e1]⟩
    · by_cases e2 : i = j
      · exact ⟨j - 1, by omega, by omega, by omega, by rw [if_neg e1, if_pos e2]⟩
      · exact ⟨i, h4, h5, h6, by rw [if_neg e1, if_neg e2]⟩
  · have hs := split_at (show 0 < j by omega) h3
    rw [swapAdj (by omega) h3 _ _ _ _ hs (by simp; omega)]
    conv => rhs; rw [hs]
    exact (st_swap hb _ _).symm
/-- All in order but for what stands before place j. -/
def AllBut (es : List Ev) (a b j : Nat) : Prop := ∀ p q, a ≤ p → p < q → q < b → q ≠ j → leE (at_ es p) (at_ es q)
theorem allBut_step {es : List Ev} {a b j : Nat} (h1 : a < j) (h2 : j < b) (h3 : b ≤ es.length) (hA : AllBut es a b j) (hb : beforeB (at_ es j) (at_ es (j - 1)) = true) : AllBut ((es.set j (at_ es (j - 1))).set (j - 1) (at_ es j)) a b (j - 1) := by
  have hat : ∀ i, at_ ((es.set j (at_ es (j - 1))).set (j - 1) (at_ es j)) i = if i = j - 1 then at_ es j else if i = j then at_ es (j - 1) else at_ es i := by
    intro i
    rw [at_set _ _ _ _ (by rw [List.length_set]; omega), at_set _ _ _ _ (by omega)]
  intro p q hp hpq hq hne
  rw [hat p, hat q, if_neg hne]
  by_cases e1 : p = j - 1
  · rw [if_pos e1]
    by_cases e2 : q = j
    · rw [if_pos e2]; exact leE_of_before hb
    · rw [if_neg e2]; exact hA j q (by omega) (by omega) hq e2
  · rw [if_neg e1]
    by_cases e2 : p = j
    · rw [if_pos e2, if_neg (by omega)]
      exact hA (j - 1) q (by omega) (by omega) hq (by omega)
    · rw [if_neg e2]
      by_cases e3 : q = j
      · rw [if_pos e3]; exact hA p (j - 1) hp (by omega) (by omega) (by omega)
      · rw [if_neg e3]; exact hA p q hp hpq hq e3
theorem allBut_done {es : List Ev} {a b j : Nat} (hA : AllBut es a b j) (h : j ≤ a ∨ leE (at_ es (j - 1)) (at_ es j)) : SortedR es a b := by
  intro p q hp hpq hq
  by_cases e : q = j
  · subst e
    rcases h with h | h
    · omega
    · by_cases e2 : p = q - 1
      · rw [e2]; exact h
      · exact leE_trans (hA p (q - 1) hp (by omega) (by omega) (by omega)) h
  · exact hA p q hp hpq hq e
theorem allBut_of {es : List Ev} {a i : Nat} (h : SortedR es a i) : AllBut es a (i + 1) i := fun p q hp hpq hq hne => h p q hp hpq (by omega)
end Go.Proofs.YtcoablindoknpaaDoor
