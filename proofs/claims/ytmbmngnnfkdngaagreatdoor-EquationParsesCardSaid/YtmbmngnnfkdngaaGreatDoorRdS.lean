/-
  An expression that was read has no more nodes than there are tokens. No program is named here.
-/
import Derived.Test.YtmbmngnnfkdngaaGreatDoorRdP
import Derived.Test.YtmbmngnnfkdngaaGreatDoorSmP
namespace Go.Proofs.YtmbmngnnfkdngaaGreatDoor

theorem szL_append (f : Ex → Nat) : ∀ (a b : List Ex), szL f (a ++ b) = szL f a + szL f b
  | [], b => by simp [szL]
  | x :: a, b => by
    have := szL_append f a b
    simp only [List.cons_append, szL, this]
    omega
def SzE (e : Nat → Int → Res Ex) : Prop := ∀ i la x j lb, e i la = some (.ok (x, j, lb)) → ∀ d, szG d x ≤ j - i
theorem sz_two {d i0 i k : Nat} {x z : Ex} (op : Int) (hx : ∀ d, szG d x ≤ i - i0) (hz : ∀ d, szG d z ≤ k - (i + 1)) (h0 : i0 ≤ i) (h1 : i + 1 ≤ k) : szG d (.mk op 0 [] [x, z]) ≤ k - i0 := by
  cases d with
  | zero => exact Nat.zero_le _
  | succ d =>
    have := hx d
    have := hz d
    simp only [szG, szL]
    omega
theorem pMore_sz {L : List Tok} {e : Nat → Int → Res Ex} (hL : Ends L) (he : FwdE L.length e) (hs : SzE e) (ops : List (List UInt8)) (hops : ops.contains [] = false) :
    ∀ g x i la y j lb i0, pMore L e ops g x i la = some (.ok (y, j, lb)) → i < L.length → i0 ≤ i → (∀ d, szG d x ≤ i - i0) → ∀ d, szG d y ≤ j - i0
  | 0, _, _, _, _, _, _, _, h, _, _, _, _ => by cases h
  | g + 1, x, i, la, y, j, lb, i0, h, hi, h0, hx, d => by
    unfold pMore at h
    split at h
    · rename_i hc
      obtain ⟨z, k, lc, h1, h2⟩ := go_ok h
      obtain ⟨t1, t2⟩ := hL.take (i := i) (fun q => by rw [q, hops] at hc; cases hc)
      rw [t1] at h1
      have a := he _ _ _ _ _ h1
      have b := hs _ _ _ _ _ h1
      exact pMore_sz hL he hs ops hops g _ _ _ _ _ _ i0 h2 a.2 (by omega) (fun d => sz_two _ hx b h0 (by omega)) d
    · cases h; exact hx d
theorem pChain_sz {L : List Tok} {e : Nat → Int → Res Ex} (hL : Ends L) (he : FwdE L.length e) (hs : SzE e) (ops : List (List UInt8)) (hops : ops.contains [] = false) (g : Nat) : SzE (pChain L e ops g) := by
  intro i la y j lb h d
  obtain ⟨z, k, lc, h1, h2⟩ := go_ok h
  have a := he _ _ _ _ _ h1
  exact pMore_sz hL he hs ops hops g _ _ _ _ _ _ i h2 a.2 (by omega) (hs _ _ _ _ _ h1) d
theorem pArgs_sz {L : List Tok} {e : Nat → Int → Res Ex} (hL : Ends L) (he : FwdE L.length e) (hs : SzE e) : ∀ k acc i la ks j lb i0, pArgs L e k acc i la = some (.ok (ks, j, lb)) → i < L.length → i0 ≤ i → (∀ d, szL (szG d) acc ≤ i - i0) → ∀ d, szL (szG d) ks ≤ j - i0
  | 0, _, _, _, _, _, _, _, h, _, _, hx, d => by cases h; exact hx d
  | k + 1, acc, i, la, ks, j, lb, i0, h, hi, h0, hx, d => by
    unfold pArgs at h
    split at h
    · obtain ⟨z, m, lc, h1, h2⟩ := go_ok h
      have a := he _ _ _ _ _ h1
      have b := hs _ _ _ _ _ h1
      exact pArgs_sz hL he hs k _ _ _ _ _ _ i0 h2 a.2 (by omega) (fun d => by have := hx d; have := b d; rw [szL_append]; simp only [szL]; omega) d
    · obtain ⟨hc, h'⟩ := need_okP h
      obtain ⟨z, m, lc, h1, h2⟩ := go_ok h'
      obtain ⟨t1, t2⟩ := hL.isT hc (by decide)
      rw [t1] at h1
      have a := he _ _ _ _ _ h1
      have b := hs _ _ _ _ _ h1
      exact pArgs_sz hL he hs k _ _ _ _ _ _ i0 h2 a.2 (by omega) (fun d => by have := hx d; have := b d; rw [szL_append]; simp only [szL]; omega) d
theorem pLast_sz {L : List Tok} (hL : Ends L) {op n : Int} {ks : List Ex} {i i0 : Nat} {la : Int} {y : Ex} {j : Nat} {lb : Int} (h : pLast L op n ks i la = some (.ok (y, j, lb))) (h0 : i0 ≤ i) (hk : ∀ d, szL (szG d) ks ≤ i - i0) : ∀ d, szG d y ≤ j - i0 := by
  obtain ⟨hc, h'⟩ := need_okP h
  obtain ⟨t1, t2⟩ := hL.isT hc (by decide)
  cases h'
  intro d
  cases d with
  | zero => exact Nat.zero_le _
  | succ d =>
    have := hk d
    simp only [szG]
    omega
theorem pCall_sz {L : List Tok} {e : Nat → Int → Res Ex} (hL : Ends L) (he : FwdE L.length e) (hs : SzE e) (op : Int) : SzE (pCall L e op) := by
  intro i la y j lb h
  obtain ⟨hc, h'⟩ := need_okP h
  obtain ⟨t1, t2⟩ := hL.isT hc (by decide)
  obtain ⟨ks, m, lc, h1, h2⟩ := go_ok h'
  rw [t1] at h1
  have a := pArgs_fwd hL he _ _ _ _ _ _ _ h1 (by omega)
  have b := pArgs_sz hL he hs _ _ _ _ _ _ _ i h1 (by omega) (by omega) (fun d => by simp [szL])
  split at h2
  · obtain ⟨hc2, h3⟩ := need_okP h2
    obtain ⟨t3, t4⟩ := hL.isT hc2 (by decide)
    split at h3
    · rename_i hk
      obtain ⟨t5, t6⟩ := kind_take hL (i := takeI L m) (by rw [hk]; decide)
      exact pLast_sz hL h3 (by omega) (fun d => by have := b d; omega)
    · cases h3
  · exact pLast_sz hL h2 (by omega) b
theorem sz_leaf (op n : Int) (nm : List UInt8) {m : Nat} (hm : 1 ≤ m) : ∀ d, szG d (.mk op n nm []) ≤ m := by
  intro d
  cases d with
  | zero => exact Nat.zero_le _
  | succ d => simp only [szG, szL]; omega
theorem pPrim_sz {L : List Tok} {e : Nat → Int → Res Ex} (hL : Ends L) (he : FwdE L.length e) (hs : SzE e) : SzE (pPrim L e) := by
  intro i la y j lb h
  unfold pPrim at h
  split at h
  · rename_i hc
    obtain ⟨t1, t2⟩ := hL.isT hc (by decide)
    obtain ⟨x, m, lc, h1, h2⟩ := go_ok h
    rw [t1] at h1
    have a := hs _ _ _ _ _ h1
    obtain ⟨hc2, h3⟩ := need_okP h2
    obtain ⟨t3, t4⟩ := hL.isT hc2 (by decide)
    cases h3
    intro d
    have := a d
    omega
  split at h
  · rename_i hc
    obtain ⟨t1, t2⟩ := hL.isT hc (by decide)
    cases h; exact sz_leaf _ _ _ (by omega)
  split at h
  · rename_i hc
    obtain ⟨t1, t2⟩ := hL.isT hc (by decide)
    cases h; exact sz_leaf _ _ _ (by omega)
  split at h
  · rename_i hc
    obtain ⟨t1, t2⟩ := hL.take (i := i) (fun q => by rw [q] at hc; exact absurd hc (by decide))
    intro d
    have := pCall_sz hL he hs _ _ _ _ _ _ h d
    omega
  split at h
  · rename_i hk
    obtain ⟨t1, t2⟩ := kind_take hL (i := i) (by rw [hk]; decide)
    cases h; exact sz_leaf _ _ _ (by omega)
  split at h
  · rename_i hk
    obtain ⟨t1, t2⟩ := kind_take hL (i := i) (by rw [hk.1]; decide)
    cases h; exact sz_leaf _ _ _ (by omega)
  · cases h
theorem pLev_sz {L : List Tok} (hL : Ends L) : ∀ f lv, SzE (pLev L f lv)
  | 0, _ => fun _ _ _ _ _ h => by cases h
  | f + 1, lv => by
    have ih := fun lv => pLev_sz hL f lv
    have fw := fun lv => pLev_fwd hL f lv
    cases lv
    · exact pChain_sz hL (fw .xor) (ih .xor) _ (by decide) f
    · exact pChain_sz hL (fw .conj) (ih .conj) _ (by decide) f
    · exact pChain_sz hL (fw .neg) (ih .neg) _ (by decide) f
    · intro i la y j lb h
      simp only [pLev] at h
      split at h
      · rename_i hc
        obtain ⟨t1, t2⟩ := hL.isT hc (by decide)
        obtain ⟨x, m, lc, h1, h2⟩ := go_ok h
        rw [t1] at h1
        have a := ih .neg _ _ _ _ _ h1
        have b := fw .neg _ _ _ _ _ h1
        cases h2
        intro d
        cases d with
        | zero => exact Nat.zero_le _
        | succ d =>
          have := a d
          simp only [szG, szL]
          omega
      · exact ih .rel _ _ _ _ _ h
    · intro i la y j lb h
      simp only [pLev] at h
      obtain ⟨x, m, lc, h1, h2⟩ := go_ok h
      have a := ih .sum _ _ _ _ _ h1
      have b := fw .sum _ _ _ _ _ h1
      split at h2
      · rename_i hc
        obtain ⟨t1, t2⟩ := hL.take (i := m) (fun q => by rw [q] at hc; exact absurd hc (by decide))
        obtain ⟨z, q, ld, h3, h4⟩ := go_ok h2
        rw [t1] at h3
        have a2 := ih .sum _ _ _ _ _ h3
        have b2 := fw .sum _ _ _ _ _ h3
        cases h4
        intro d
        exact sz_two _ a a2 (by omega) (by omega)
      · cases h2; exact a
    · exact pChain_sz hL (fw .prim) (ih .prim) _ (by decide) f
    · exact pPrim_sz hL (fw .expr) (ih .expr)
/-- The reader's answer, and that what it read well is small. -/
theorem parse_read2 {t : List UInt8} (ht : ¬ 120 < t.length) {l : List Tok} (hl : toksP t = .ok l) : ∃ y s, rLev l 1008 .expr ⟨0, false, -1⟩ = some (y, s) ∧ s.i ≤ l.length ∧ endR t l y s = parseP t ∧ (s.bad = false → ∀ d, szG d y ≤ 120) := by
  obtain ⟨y, s, h1, h2, h3⟩ := parse_read ht hl
  refine ⟨y, s, h1, h2, h3, fun hb => ?_⟩
  obtain ⟨hw, hlen⟩ := toksP_ok hl
  obtain ⟨v, hv⟩ := pLev_fin (ends_of hw) 1000 .expr 0 (-1) (by simp [rankL]; omega)
  obtain ⟨y', s', hy', ho⟩ := rLev_good hw 1000 .expr 0 (-1) v (Nat.zero_le _) hv
  rw [show 1000 + 8 = 1008 from rfl, h1] at hy'
  injection hy' with hy'
  injection hy' with e1 e2
  subst e1
  subst e2
  rcases v with ⟨a, er⟩ | ⟨x, j, la⟩
  · exact absurd ho.1 (by rw [hb]; decide)
  · obtain ⟨rfl, rfl, hj⟩ := ho
    intro d
    have := pLev_sz (ends_of hw) 1000 .expr _ _ _ _ _ hv d
    omega
end Go.Proofs.YtmbmngnnfkdngaaGreatDoor
