/-
  The plain law of RecorderKeepsLast: a log holds the last events of all that it accepted, by their order, counts the others and is valid.
-/
import Derived.Test.YtcoablindoknpaaDoorKnown
namespace Go.Proofs.YtcoablindoknpaaDoor
open Go.RowKit

theorem valid_iff (g : LogM) : validB g = true ↔ headB g = true ∧ (∀ e ∈ g.events, goodB e = true ∧ g.floor ≤ e.time) ∧ g.events.Pairwise leE := by
  have key : headB g = true → (∀ e ∈ g.events, goodB e = true ∧ g.floor ≤ e.time) → (validB g = true ↔ g.events.Pairwise leE) := by
    intro hh hg
    rw [valid_sorted hh fun j e _ he => hg e (List.mem_of_getElem? he)]
    constructor
    · intro h
      rw [List.pairwise_iff_getElem]
      intro i j hi hj hij
      exact sorted_pairs h j i _ _ hij (List.getElem?_eq_getElem hj) (List.getElem?_eq_getElem hi)
    · intro h
      rw [List.pairwise_iff_getElem] at h
      refine sorted_ok ⟨fun i j a b hj hi ha hb => ?_, fun j a b hj => absurd hj (Nat.not_lt_zero _)⟩
      obtain ⟨hi', rfl⟩ := List.getElem?_eq_some_iff.1 ha
      obtain ⟨hj', rfl⟩ := List.getElem?_eq_some_iff.1 hb
      exact h j i hj' hi' hj
  constructor
  · intro h
    have h0 := h
    unfold validB at h0
    rw [Bool.and_eq_true, List.all_eq_true] at h0
    have hg : ∀ e ∈ g.events, goodB e = true ∧ g.floor ≤ e.time := by
      intro e he
      obtain ⟨k, hk, rfl⟩ := List.getElem_of_mem he
      have h1 := h0.2 k (List.mem_range.2 hk)
      rw [okAt_eq (List.getElem?_eq_getElem hk)] at h1
      simp only [Bool.and_eq_true, decide_eq_true_eq] at h1
      exact h1.1
    exact ⟨h0.1, hg, (key h0.1 hg).1 h⟩
  · rintro ⟨h1, h2, h3⟩
    exact (key h1 h2).2 h3

theorem leE_of_before {a b : Ev} (h : beforeB a b = true) : leE a b := by
  rw [before_iff] at h
  rw [leE_iff]
  omega
theorem insPos_front (e : Ev) (l r : List Ev) : ∀ k, k ≤ l.length → insPos e (l ++ r) k = insPos e l k
  | 0, _ => rfl
  | k + 1, h => by
    unfold insPos
    rw [List.getElem?_append_left (by omega), insPos_front e l r k (by omega)]
theorem insE_nil (e : Ev) : insE [] e = [e] := rfl
theorem insE_snoc (l : List Ev) (p e : Ev) : insE (l ++ [p]) e = if beforeB e p then insE l e ++ [p] else l ++ [p, e] := by
  have h1 := insPos_front e l [p] l.length (Nat.le_refl _)
  have h2 : pos e (l ++ [p]) = if beforeB e p then pos e l else l.length + 1 := by
    unfold pos
    rw [List.length_append, List.length_singleton]
    conv => lhs; unfold insPos
    rw [List.getElem?_append_right (Nat.le_refl _), Nat.sub_self, h1]
    rfl
  have h3 : pos e l ≤ l.length := insPos_le e l l.length
  unfold insE
  rw [h2]
  split
  · rw [List.take_append_of_le_length h3, List.drop_append_of_le_length h3]
    simp
  · rw [List.take_of_length_le (by simp), List.drop_eq_nil_of_le (by simp)]
    simp
theorem insE_mem {l : List Ev} {e x : Ev} : x ∈ insE l e ↔ x = e ∨ x ∈ l := by
  unfold insE
  rw [List.mem_append, List.mem_cons]
  conv => rhs; rw [← List.take_append_drop (pos e l) l, List.mem_append]
  constructor
  · rintro (h | h | h)
    · exact .inr (.inl h)
    · exact .inl h
    · exact .inr (.inr h)
  · rintro (h | h | h)
    · exact .inr (.inl h)
    · exact .inl h
    · exact .inr (.inr h)
/-- Lists from their end. -/
theorem snoc_ind {P : List Ev → Prop} (h0 : P []) (h1 : ∀ l p, P l → P (l ++ [p])) (l : List Ev) : P l := by
  have : ∀ n (l : List Ev), l.length = n → P l := by
    intro n
    induction n with
    | zero => intro l hl; obtain rfl := List.eq_nil_of_length_eq_zero hl; exact h0
    | succ n ih =>
      intro l hl
      have hne : l ≠ [] := by intro h; subst h; simp at hl
      rw [← List.dropLast_concat_getLast hne]
      exact h1 _ _ (ih _ (by simp [hl]))
  exact this _ l rfl
theorem insE_sorted (e : Ev) (l : List Ev) : l.Pairwise leE → (insE l e).Pairwise leE := by
  induction l using snoc_ind with
  | h0 => intro _; rw [insE_nil]; exact List.pairwise_singleton _ _
  | h1 l p ih =>
    intro h
    rw [List.pairwise_append] at h
    obtain ⟨hl, -, hp⟩ := h
    rw [insE_snoc]
    split
    · rename_i hb
      rw [List.pairwise_append]
      refine ⟨ih hl, List.pairwise_singleton _ _, fun x hx y hy => ?_⟩
      obtain rfl := List.mem_singleton.1 hy
      rcases insE_mem.1 hx with rfl | hx
      · exact leE_of_before hb
      · exact hp x hx _ (by simp)
    · rename_i hb
      have hpe : leE p e := by unfold leE; simpa using hb
      rw [List.pairwise_append]
      refine ⟨hl, ?_, fun x hx y hy => ?_⟩
      · exact List.pairwise_cons.2 ⟨fun y hy => by obtain rfl := List.mem_singleton.1 hy; exact hpe, List.pairwise_singleton _ _⟩
      · have hxp := hp x hx p (by simp)
        rcases List.mem_cons.1 hy with rfl | hy
        · exact hxp
        · obtain rfl := List.mem_singleton.1 hy
          exact leE_trans hxp hpe
theorem insE_split (D : List Ev) (e : Ev) (E : List Ev) : insE (D ++ E) e = D ++ insE E e ∨ (insE (D ++ E) e = insE D e ++ E ∧ insE E e = e :: E) := by
  induction E using snoc_ind with
  | h0 => right; simp [insE_nil]
  | h1 E p ih =>
    rw [← List.append_assoc, insE_snoc, insE_snoc]
    by_cases hb : beforeB e p = true
    · rw [if_pos hb, if_pos hb]
      rcases ih with ih | ⟨ih1, ih2⟩
      · left; rw [ih, List.append_assoc]
      · right; rw [ih1, ih2]; simp
    · rw [if_neg hb, if_neg hb]
      left; simp

structure Keep (room : Int) (S : List Ev) (g : LogM) : Prop where
  val : validB g = true
  rm : g.room = room
  spl : ∃ D : List Ev, S = D ++ g.events ∧ g.lost = D.length ∧ (0 < D.length → (g.events.length : Int) = room)
theorem head_iff (g : LogM) : headB g = true ↔ 1 ≤ g.room ∧ g.room ≤ 512 ∧ (g.events.length : Int) ≤ g.room ∧ (0 ≤ g.lost ∧ g.lost ≤ 1000000000) ∧ (0 ≤ g.floor ∧ g.floor ≤ 1000000000) ∧ ¬ (g.lost = 0 ∧ g.floor ≠ 0) := by
  unfold headB
  rw [decide_eq_true_eq, withinB_true, withinB_true]
theorem keep_new {room : Int} (h1 : 1 ≤ room) (h2 : room ≤ 512) : Keep room [] { room := room, events := [], lost := 0, floor := 0 } := by
  refine ⟨(valid_iff _).2 ⟨(head_iff _).2 ⟨h1, h2, by simp; omega, by simp, by simp, by simp⟩, by simp, List.Pairwise.nil⟩, rfl, [], by simp, by simp, by simp⟩
theorem good_time {e : Ev} (h : goodB e = true) : 0 ≤ e.time ∧ e.time ≤ 1000000000 := by
  unfold goodB at h
  rw [Bool.and_eq_true, withinB_true] at h
  exact h.1
theorem leE_time {a b : Ev} (h : leE a b) : a.time ≤ b.time := by rw [leE_iff] at h; omega
/-- What Record answers, for a valid log. -/
theorem recP_cases {g : LogM} (hv : validB g = true) (e : Ev) : ((recP g e).2 = 1 ∧ goodB e = false) ∨ ((recP g e).2 = 18 ∧ e.time < g.floor) ∨ ((recP g e).2 = 0 ∧ goodB e = true ∧ g.floor ≤ e.time) := by
  unfold recP
  by_cases hg : goodB e = false
  · left; simp [hg]
  · have hg' : goodB e = true := by simpa using hg
    by_cases ht : e.time < g.floor
    · right; left; simp [hv, hg', ht]
    · right; right
      refine ⟨?_, hg', by omega⟩
      simp only [hv, hg', ht, if_false, Bool.true_eq_false, or_self]
      split <;> rfl
theorem keep_step {room : Int} {S : List Ev} {g : LogM} {e : Ev} (hK : Keep room S g) (hS : S.length ≤ 1000) (hg : goodB e = true) (ht : g.floor ≤ e.time) : Keep room (insE S e) (recP g e).1 := by
  obtain ⟨hv, hr, D, rfl, hl, hD⟩ := hK
  obtain ⟨hh, hgood, hs⟩ := (valid_iff g).1 hv
  obtain ⟨h1, h2, h3, h4, h5, h6⟩ := (head_iff g).1 hh
  have hs2 := insE_sorted e _ hs
  have hlen := insE_len g.events e
  have hnt : ¬ e.time < g.floor := by omega
  have hall : ∀ x ∈ insE g.events e, goodB x = true ∧ g.floor ≤ x.time := by
    intro x hx
    rcases insE_mem.1 hx with rfl | hx
    · exact ⟨hg, ht⟩
    · exact hgood x hx
  rw [List.length_append] at hS
  by_cases hfull : g.room < ((insE g.events e).length : Int)
  · have hrec : (recP g e).1 = { room := g.room, events := (insE g.events e).drop 1, lost := min (g.lost + 1) 1000000000, floor := ((insE g.events e)[0]?.map (·.time)).getD 0 } := by
      simp only [recP, hv, hg, hnt, if_false, hfull, if_true, Bool.true_eq_false, or_self]
    rw [hrec]
    have hroom : (g.events.length : Int) = g.room := by omega
    have hmin : min (g.lost + 1) 1000000000 = ((D.length + 1 : Nat) : Int) := by omega
    rw [hmin]
    have hsp := insE_split D e g.events
    revert hsp
    generalize hI : insE g.events e = I at *
    match I, hlen with
    | x :: X, hlen =>
      intro hsp
      have hx := hall x (by simp)
      have hxt := good_time hx.1
      rw [List.pairwise_cons] at hs2
      simp only [List.length_cons] at hlen
      refine ⟨(valid_iff _).2 ⟨(head_iff _).2 ⟨h1, h2, ?_, ?_, ?_, ?_⟩, ?_, ?_⟩, hr, ?_⟩
      · simp; omega
      · simp only; omega
      · simpa using hxt
      · simp only; omega
      · intro y hy
        simp only [List.drop_succ_cons, List.drop_zero] at hy
        exact ⟨(hall y (by simp [hy])).1, by simpa using leE_time (hs2.1 y hy)⟩
      · simpa using hs2.2
      · simp only [List.drop_succ_cons, List.drop_zero]
        rcases hsp with hsp | ⟨hsp, hX⟩
        · exact ⟨D ++ [x], by rw [hsp]; simp, by simp, fun _ => by omega⟩
        · refine ⟨insE D e, ?_, by rw [insE_len], fun _ => by omega⟩
          rw [hsp]
          cases hX
          rfl
  · have hrec : (recP g e).1 = { g with events := insE g.events e } := by
      simp only [recP, hv, hg, hnt, if_false, hfull, Bool.true_eq_false, or_self]
    rw [hrec]
    have hD0 : D = [] := by
      rcases Nat.eq_zero_or_pos D.length with h | h
      · exact List.eq_nil_of_length_eq_zero h
      · have := hD h; omega
    subst hD0
    refine ⟨(valid_iff _).2 ⟨(head_iff _).2 ⟨h1, h2, by simp only; omega, h4, h5, h6⟩, hall, hs2⟩, hr, [], by simp, hl, by simp⟩
/-- The end: what is lost, what is kept. -/
theorem keep_end {room : Int} {S : List Ev} {g : LogM} (hK : Keep room S g) : ∃ n : Nat, max 0 ((S.length : Int) - room) = n ∧ n ≤ S.length ∧ g.lost = n ∧ S.drop n = g.events := by
  obtain ⟨hv, hr, D, rfl, hl, hD⟩ := hK
  obtain ⟨hh, -, -⟩ := (valid_iff g).1 hv
  obtain ⟨h1, h2, h3, -⟩ := (head_iff g).1 hh
  refine ⟨D.length, ?_, by simp, hl, by simp⟩
  rw [List.length_append]
  rcases Nat.eq_zero_or_pos D.length with h | h
  · omega
  · have := hD h; omega
end Go.Proofs.YtcoablindoknpaaDoor
