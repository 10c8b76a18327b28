/-
  Depth, size and validity of an expression in plain words. No program is named here.
-/
import Derived.Test.YtmbmngnnfkdngaaGreatDoorEqP
namespace Go.Proofs.YtmbmngnnfkdngaaGreatDoor

/-- At most d levels deep. -/
def inG : Nat → Ex → Prop
  | 0, _ => False
  | d + 1, .mk _ _ _ ks => ∀ k ∈ ks, inG d k
/-- At most d levels deep, at most four operands each. -/
def smG : Nat → Ex → Prop
  | 0, _ => False
  | d + 1, .mk _ _ _ ks => ks.length ≤ 4 ∧ ∀ k ∈ ks, smG d k
def szL (f : Ex → Nat) : List Ex → Nat
  | [] => 0
  | k :: ks => f k + szL f ks
def szG : Nat → Ex → Nat
  | 0, _ => 0
  | d + 1, .mk _ _ _ ks => 1 + szL (szG d) ks
def dpL (f : Ex → Nat) : List Ex → Nat
  | [] => 0
  | k :: ks => max (f k) (dpL f ks)
def dpG : Nat → Ex → Nat
  | 0, _ => 0
  | d + 1, .mk _ _ _ ks => dpL (dpG d) ks + 1
def bltG : Nat → Ex → Bool
  | 0, _ => true
  | d + 1, .mk op n nm ks => nodeB op n nm ks.length && ks.all (bltG d)
theorem szL_le {f : Ex → Nat} {m : Nat} : ∀ (ks : List Ex), (∀ k ∈ ks, f k ≤ m) → szL f ks ≤ ks.length * m
  | [], _ => by simp [szL]
  | k :: ks, h => by
    have h1 := h k (List.mem_cons_self ..)
    have h2 := szL_le ks (fun y hy => h y (List.mem_cons_of_mem _ hy))
    simp only [szL, List.length_cons, Nat.succ_mul]
    omega
theorem szG_le : ∀ (d : Nat) (x : Ex), smG d x → 3 * szG d x + 1 ≤ 4 ^ d
  | 0, _, h => h.elim
  | d + 1, .mk op n nm ks, h => by
    have h1 := szL_le (f := szG d) (m := (4 ^ d - 1) / 3) ks (fun k hk => by have := szG_le d k (h.2 k hk); omega)
    have h2 : ks.length * ((4 ^ d - 1) / 3) ≤ 4 * ((4 ^ d - 1) / 3) := Nat.mul_le_mul_right _ h.1
    have h3 : 1 ≤ 4 ^ d := Nat.one_le_pow _ _ (by omega)
    simp only [szG, Nat.pow_succ]
    omega
theorem dpL_le {f : Ex → Nat} {m : Nat} : ∀ (ks : List Ex), dpL f ks ≤ m ↔ ∀ k ∈ ks, f k ≤ m
  | [] => by simp [dpL]
  | k :: ks => by simp [dpL, Nat.max_le, dpL_le ks]
theorem vL_eq {f : Nat → Ex → Option Nat} {a : Ex → Bool} {s : Ex → Nat} : ∀ (ks : List Ex) (left : Nat), (∀ k ∈ ks, ∀ l, f l k = if a k = true ∧ s k ≤ l then some (l - s k) else none) →
    vL f left ks = if ks.all a = true ∧ szL s ks ≤ left then some (left - szL s ks) else none
  | [], left, _ => by simp [vL, szL]
  | k :: ks, left, h => by
    have h1 := h k (List.mem_cons_self ..) left
    have h2 := fun l => vL_eq ks l (fun y hy => h y (List.mem_cons_of_mem _ hy))
    unfold vL
    rw [h1]
    by_cases hk : a k = true ∧ s k ≤ left
    · rw [if_pos hk]
      show vL f (left - s k) ks = _
      rw [h2]
      have e1 : (k :: ks).all a = ks.all a := by rw [List.all_cons, hk.1, Bool.true_and]
      have e2 : szL s (k :: ks) = s k + szL s ks := rfl
      rw [e1, e2]
      by_cases hr : ks.all a = true ∧ szL s ks ≤ left - s k
      · rw [if_pos hr, if_pos ⟨hr.1, by omega⟩, Nat.sub_sub]
      · rw [if_neg hr, if_neg (fun q => hr ⟨q.1, by omega⟩)]
    · rw [if_neg hk]
      refine (if_neg ?_).symm
      rintro ⟨q1, q2⟩
      rw [List.all_cons, Bool.and_eq_true] at q1
      unfold szL at q2
      exact hk ⟨q1.1, by omega⟩
theorem vG_eq : ∀ (D : Nat) (x : Ex) (d left : Nat), inG D x → vG d left x = if (decide (dpG D x ≤ d) && bltG D x) = true ∧ szG D x ≤ left then some (left - szG D x) else none
  | 0, _, _, _, h => h.elim
  | D + 1, .mk op n nm ks, 0, left, h => by
    rw [if_neg]
    · rfl
    · simp [dpG]
  | D + 1, .mk op n nm ks, d + 1, left, h => by
    have hv := vL_eq (f := vG d) (a := fun k => decide (dpG D k ≤ d) && bltG D k) (s := szG D) ks (left - 1) (fun k hk l => vG_eq D k d l (h k hk))
    unfold vG
    have hall : (ks.all fun k => decide (dpG D k ≤ d) && bltG D k) = (decide (dpL (dpG D) ks ≤ d) && ks.all (bltG D)) := by
      rw [Bool.eq_iff_iff]
      simp only [List.all_eq_true, Bool.and_eq_true, decide_eq_true_eq, dpL_le]
      exact ⟨fun q => ⟨fun k hk => (q k hk).1, fun k hk => (q k hk).2⟩, fun q k hk => ⟨q.1 k hk, q.2 k hk⟩⟩
    rw [hv, hall]
    have hdp : decide (dpG (D + 1) (.mk op n nm ks) ≤ d + 1) = decide (dpL (dpG D) ks ≤ d) := by
      simp only [dpG]
      exact decide_eq_decide.2 (by omega)
    have e1 : bltG (D + 1) (.mk op n nm ks) = (nodeB op n nm ks.length && ks.all (bltG D)) := rfl
    have e2 : szG (D + 1) (.mk op n nm ks) = 1 + szL (szG D) ks := rfl
    rw [hdp, e1, e2]
    cases hn : nodeB op n nm ks.length with
    | false => simp
    | true =>
      rw [Bool.true_and]
      by_cases hl : left = 0
      · subst hl
        simp
      · rw [if_neg (by simp [hl])]
        by_cases hr : (decide (dpL (dpG D) ks ≤ d) && ks.all (bltG D)) = true ∧ szL (szG D) ks ≤ left - 1
        · rw [if_pos hr, if_pos ⟨hr.1, by omega⟩, Nat.sub_sub]
        · rw [if_neg hr, if_neg (fun q => hr ⟨q.1, by omega⟩)]
theorem smG_in : ∀ (d : Nat) (x : Ex), smG d x → inG d x
  | 0, _, h => h.elim
  | d + 1, .mk _ _ _ _, h => fun k hk => smG_in d k (h.2 k hk)
theorem szL_mem {f : Ex → Nat} : ∀ {ks : List Ex} {k : Ex}, k ∈ ks → f k ≤ szL f ks
  | [], _, h => by cases h
  | y :: ks, k, h => by
    unfold szL
    rcases List.mem_cons.1 h with rfl | h
    · omega
    · have := szL_mem (f := f) h; omega
theorem dpG_sz : ∀ (d : Nat) (x : Ex), dpG d x ≤ szG d x
  | 0, _ => Nat.le_refl _
  | d + 1, .mk op n nm ks => by
    have h : dpL (dpG d) ks ≤ szL (szG d) ks := (dpL_le ks).2 fun k hk => Nat.le_trans (dpG_sz d k) (szL_mem hk)
    simp only [dpG, szG]
    omega
theorem valid_eq {D : Nat} {x : Ex} (h : inG D x) : validP x = (decide (dpG D x ≤ 16) && (decide (szG D x ≤ 60) && bltG D x)) := by
  unfold validP
  rw [vG_eq D x 16 60 h, Bool.eq_iff_iff]
  by_cases hc : (decide (dpG D x ≤ 16) && bltG D x) = true ∧ szG D x ≤ 60
  · rw [if_pos hc]
    obtain ⟨h1, h2⟩ := hc
    rw [Bool.and_eq_true] at h1
    simp [h1.1, h1.2, h2]
  · rw [if_neg hc]
    simp only [Option.isSome_none, Bool.false_eq_true, false_iff, Bool.and_eq_true, decide_eq_true_eq]
    rintro ⟨q1, q2, q3⟩
    exact hc ⟨by simp [q1, q3], q2⟩
theorem smG_more : ∀ (d : Nat) (x : Ex), smG d x → smG (d + 1) x
  | 0, _, h => h.elim
  | d + 1, .mk _ _ _ _, h => ⟨h.1, fun k hk => smG_more d k (h.2 k hk)⟩
theorem smG_le {d d' : Nat} {x : Ex} (hd : d ≤ d') (h : smG d x) : smG d' x := by
  induction hd with
  | refl => exact h
  | step _ ih => exact smG_more _ _ ih
end Go.Proofs.YtmbmngnnfkdngaaGreatDoor
