/-
  The reference's event, plain: which texts are the line of a good event. No program is run here.
-/
import Derived.Test.YtcoablindoknpaaDoorRNum
namespace Go.Proofs.YtcoablindoknpaaDoor
open Go.RowKit

def evL (s : List UInt8) : Option Ev := if s.getLast? = some 10 then evP s.dropLast else Option.none
theorem evL_snoc (x : List UInt8) : evL (x ++ [10]) = evP x := by simp [evL]
theorem evL_ok {s : List UInt8} {e : Ev} (hg : goodB e = true) (h : rlineS e = s) : evL s = some e := by
  subst h
  unfold rlineS
  rw [evL_snoc, evP_line hg]
theorem evL_no {s : List UInt8} (h : ∀ e, goodB e = true → rlineS e ≠ s) : evL s = Option.none := by
  cases he : evL s with
  | none => rfl
  | some e =>
    unfold evL at he
    split at he
    · rename_i hl
      obtain ⟨h1, h2⟩ := evP_sound he
      refine absurd ?_ (h e h1)
      unfold rlineS
      rw [h2]
      have hne : s ≠ [] := by rintro rfl; simp at hl
      have hl' : s.getLast hne = 10 := by rw [List.getLast?_eq_some_getLast hne] at hl; exact Option.some.inj hl
      rw [← hl']
      exact List.dropLast_concat_getLast hne
    · cases he

def valS (e : Ev) : List UInt8 := (if e.value then [111, 110] else [111, 102, 102]) ++ (if e.quality = 0 then [] else [32, 63] ++ Lib.itoa e.quality)
def R2 (e : Ev) : List UInt8 := Lib.itoa e.signal ++ 32 :: (valS e ++ [10])
def R1 (e : Ev) : List UInt8 := Lib.itoa e.device ++ 46 :: R2 e
theorem rline_eq (e : Ev) : rlineS e = Lib.itoa e.time ++ 32 :: R1 e := by simp [rlineS, lineS, R1, R2, valS]

theorem fold_ge (l : List UInt8) : ∀ n : Nat, n ≤ l.foldl (fun n c => 10 * n + (c.toNat - 48)) n := by
  induction l with
  | nil => intro n; exact Nat.le_refl _
  | cons c l ih => intro n; rw [List.foldl_cons]; exact Nat.le_trans (by omega) (ih _)
theorem rnG_digits {most : Nat} {c : UInt8} {r : List UInt8} (hc : digB c = false) : ∀ (l : List UInt8) (n : Nat), l.all digB = true → l.foldl (fun n c => 10 * n + (c.toNat - 48)) n ≤ most → rnG most (l ++ c :: r) n = (l.foldl (fun n c => 10 * n + (c.toNat - 48)) n, c :: r)
  | [], n, _, _ => by simp [rnG, hc]
  | x :: l, n, ha, hm => by
    rw [List.all_cons, Bool.and_eq_true] at ha
    have hn := fold_ge (x :: l) n
    rw [List.cons_append, rnG, if_pos ⟨ha.1, Nat.le_trans hn hm⟩]
    rw [List.foldl_cons] at hm ⊢
    exact rnG_digits hc l _ ha.2 hm
theorem dec_head (u : Nat) : 10 ≤ u → (Lib.decDigits u).head? ≠ some 48 := by
  induction u using Nat.strongRecOn with
  | _ u ih =>
  intro h
  rw [Lib.decDigits, dif_neg (by omega)]
  by_cases h2 : u / 10 < 10
  · rw [Lib.decDigits_one h2]
    simp only [List.cons_append, List.head?_cons, ne_eq, Option.some.injEq]
    intro h3
    have := congrArg UInt8.toNat h3
    rw [UInt8.toNat_ofNat'] at this
    have h48 : (48 : UInt8).toNat = 48 := rfl
    omega
  · have := ih (u / 10) (by omega) (by omega)
    cases hd : Lib.decDigits (u / 10) with
    | nil => exact absurd hd (dec_ne _)
    | cons a l => rw [hd] at this; simpa using this
theorem rnum_itoa {most : Nat} {n : Int} {c : UInt8} {r : List UInt8} (h0 : 0 ≤ n) (h1 : n ≤ most) (hc : digB c = false) : rnumP most (Lib.itoa n ++ c :: r) = (n, c :: r, true) := by
  rw [itoa_dec h0]
  have hv := dec_val n.toNat
  have hg := rnG_digits (most := most) (r := r) hc (Lib.decDigits n.toNat) 0 (dec_all _) (by unfold numV at hv; rw [hv]; omega)
  unfold numV at hv
  rw [hv] at hg
  have hd : (Lib.decDigits n.toNat ++ c :: r).drop (Lib.decDigits n.toNat).length = c :: r := by simp
  have hne := dec_ne n.toNat
  have hlen : 0 < (Lib.decDigits n.toNat).length := List.length_pos_iff.2 hne
  have := rnum_eq (most := most) (s := Lib.decDigits n.toNat ++ c :: r) (k := (Lib.decDigits n.toNat).length) (m := n.toNat) (B := true) (by rw [hd]; exact hg) (by simp) (by
    simp only [iff_true]
    refine ⟨hlen, by omega, ?_⟩
    by_cases h10 : n.toNat < 10
    · left; rw [Lib.decDigits_one h10]; rfl
    · right
      have := dec_head n.toNat (by omega)
      cases hd2 : Lib.decDigits n.toNat with
      | nil => exact absurd hd2 hne
      | cons a l => rw [hd2] at this; simpa using this)
  rw [this, hd, Int.toNat_of_nonneg h0]
theorem rnum_bound {most : Nat} {s : List UInt8} (h : (rnumP most s).2.2 = true) : 0 ≤ (rnumP most s).1 ∧ (rnumP most s).1 ≤ most := by
  unfold rnumP at h ⊢
  simp only [decide_eq_true_eq] at h ⊢
  omega
theorem rnG_len (most : Nat) : ∀ (s : List UInt8) (n : Nat), (rnG most s n).2.length ≤ s.length
  | [], n => by simp [rnG]
  | c :: r, n => by
    rw [rnG]
    split
    · have := rnG_len most r (10 * n + (c.toNat - 48)); simp; omega
    · simp
theorem rnum_len (most : Nat) (s : List UInt8) : (rnumP most s).2.1.length ≤ s.length := rnG_len most s 0
theorem step1 {e : Ev} (hg : goodB e = true) : rnumP 1000000000 (rlineS e) = (e.time, 32 :: R1 e, true) := by
  obtain ⟨⟨a1, a2⟩, ⟨a3, a4⟩, ⟨a5, a6⟩, a7, a8⟩ := good_bounds hg
  rw [rline_eq]
  exact rnum_itoa a1 (by omega) (by decide)
theorem step2 {e : Ev} (hg : goodB e = true) : rnumP 999 (R1 e) = (e.device, 46 :: R2 e, true) := by
  obtain ⟨⟨a1, a2⟩, ⟨a3, a4⟩, ⟨a5, a6⟩, a7, a8⟩ := good_bounds hg
  exact rnum_itoa a3 (by omega) (by decide)
theorem step3 {e : Ev} (hg : goodB e = true) : rnumP 999 (R2 e) = (e.signal, 32 :: (valS e ++ [10]), true) := by
  obtain ⟨⟨a1, a2⟩, ⟨a3, a4⟩, ⟨a5, a6⟩, a7, a8⟩ := good_bounds hg
  exact rnum_itoa a5 (by omega) (by decide)
theorem good_mk {t d g q : Int} {v : Bool} (h1 : 0 ≤ t ∧ t ≤ 1000000000) (h2 : 0 ≤ d ∧ d ≤ 999) (h3 : 0 ≤ g ∧ g ≤ 999) (h4 : 0 ≤ q ∧ q ≤ 9) : goodB ⟨t, d, g, v, q⟩ = true := by
  simp [goodB, withinB]
  exact ⟨h1, h2, h3, h4⟩
end Go.Proofs.YtcoablindoknpaaDoor
