/-
  The parser in plain words: more rounds change nothing, and enough rounds always come to an end. No program is named here.
-/
import Derived.Test.YtmbmngnnfkdngaaGreatDoorEqP
namespace Go.Proofs.YtmbmngnnfkdngaaGreatDoor

/-- What r comes to, r' comes to as well. -/
def LeR {α : Type} (r r' : Res α) : Prop := ∀ v, r = some v → r' = some v
theorem LeR.refl {α : Type} (r : Res α) : LeR r r := fun _ h => h
theorem LeR.go {α β : Type} {r r' : Res α} {f f' : α → Nat → Int → Res β} (hr : LeR r r') (hf : ∀ x i la, LeR (f x i la) (f' x i la)) : LeR (r.go f) (r'.go f') := by
  intro v h
  unfold Res.go at h
  split at h
  · cases h
  · rename_i e
    rw [hr _ rfl]; exact h
  · rename_i x i la
    rw [hr _ rfl]
    exact hf x i la v h
theorem LeR.need {α : Type} {L : List Tok} {s : List UInt8} {i : Nat} {f f' : Nat → Res α} (hf : ∀ j, LeR (f j) (f' j)) : LeR (needP L s i f) (needP L s i f') := by
  unfold needP
  split
  · exact hf _
  · exact LeR.refl _
def LeE (e e' : Nat → Int → Res Ex) : Prop := ∀ i la, LeR (e i la) (e' i la)
theorem pMore_mono {L : List Tok} {e e' : Nat → Int → Res Ex} (he : LeE e e') (ops : List (List UInt8)) : ∀ g g' x i la, g ≤ g' → LeR (pMore L e ops g x i la) (pMore L e' ops g' x i la)
  | 0, _, _, _, _, _ => fun _ h => by cases h
  | g + 1, 0, _, _, _, h => absurd h (by omega)
  | g + 1, g' + 1, x, i, la, h => by
    unfold pMore
    split
    · exact (he _ _).go fun y j lb => pMore_mono he ops g g' _ _ _ (by omega)
    · exact LeR.refl _
theorem pChain_mono {L : List Tok} {e e' : Nat → Int → Res Ex} (he : LeE e e') (ops : List (List UInt8)) {g g' : Nat} (hg : g ≤ g') (i : Nat) (la : Int) : LeR (pChain L e ops g i la) (pChain L e' ops g' i la) :=
  (he i la).go fun x j lb => pMore_mono he ops g g' x j lb hg
theorem pArgs_mono {L : List Tok} {e e' : Nat → Int → Res Ex} (he : LeE e e') : ∀ k acc i la, LeR (pArgs L e k acc i la) (pArgs L e' k acc i la)
  | 0, _, _, _ => LeR.refl _
  | k + 1, acc, i, la => by
    unfold pArgs
    split
    · exact (he _ _).go fun y j lb => pArgs_mono he k _ _ _
    · exact LeR.need fun i' => (he _ _).go fun y j lb => pArgs_mono he k _ _ _
theorem pCall_mono {L : List Tok} {e e' : Nat → Int → Res Ex} (he : LeE e e') (op : Int) (i : Nat) (la : Int) : LeR (pCall L e op i la) (pCall L e' op i la) :=
  LeR.need fun _ => (pArgs_mono he _ _ _ _).go fun _ _ _ => LeR.refl _
theorem pPrim_mono {L : List Tok} {e e' : Nat → Int → Res Ex} (he : LeE e e') (i : Nat) (la : Int) : LeR (pPrim L e i la) (pPrim L e' i la) := by
  unfold pPrim
  split
  · exact (he _ _).go fun _ _ _ => LeR.refl _
  split
  · exact LeR.refl _
  split
  · exact LeR.refl _
  split
  · exact pCall_mono he _ _ _
  · exact LeR.refl _
theorem pLev_mono (L : List Tok) : ∀ f f' lv, f ≤ f' → LeE (pLev L f lv) (pLev L f' lv)
  | 0, _, _, _ => fun _ _ _ h => by cases h
  | f + 1, 0, _, h => absurd h (by omega)
  | f + 1, f' + 1, lv, h => by
    have ih := fun lv => pLev_mono L f f' lv (by omega)
    intro i la
    cases lv <;> simp only [pLev]
    · exact pChain_mono (ih _) _ (by omega) _ _
    · exact pChain_mono (ih _) _ (by omega) _ _
    · exact pChain_mono (ih _) _ (by omega) _ _
    · split
      · exact (ih _ _ _).go fun _ _ _ => LeR.refl _
      · exact ih _ _ _
    · refine (ih _ _ _).go fun x j lb => ?_
      split
      · exact (ih _ _ _).go fun _ _ _ => LeR.refl _
      · exact LeR.refl _
    · exact pChain_mono (ih _) _ (by omega) _ _
    · exact pPrim_mono (ih _) _ _
theorem parseF_mono {f f' : Nat} (h : f ≤ f') {t : List UInt8} {r : Ex × Int × Int} (hr : parseF f t = some r) : parseF f' t = some r := by
  unfold parseF at hr ⊢
  split at hr
  · rename_i hl; rw [if_pos hl]; exact hr
  · rename_i hl
    rw [if_neg hl]
    cases ht : toksP t with
    | error e => rw [ht] at hr; exact hr
    | ok l =>
      rw [ht] at hr
      simp only at hr ⊢
      split at hr
      · cases hr
      · rename_i hq; rw [pLev_mono _ f f' .expr h _ _ _ hq]; exact hr
      · rename_i hq; rw [pLev_mono _ f f' .expr h _ _ _ hq]; exact hr

/-- Only a token with a text goes on. -/
structure Ends (L : List Tok) : Prop where
  text : ∀ j, (tk L j).kind = 0 → (tk L j).text = []
  last : ∀ j, (tk L j).kind ≠ 0 → j + 1 < L.length
theorem Ends.take {L : List Tok} (h : Ends L) {i : Nat} (hk : (tk L i).text ≠ []) : takeI L i = i + 1 ∧ i + 1 < L.length := by
  have : (tk L i).kind ≠ 0 := fun q => hk (h.text i q)
  exact ⟨by unfold takeI; rw [if_neg this], h.last i this⟩
theorem Ends.isT {L : List Tok} (h : Ends L) {i : Nat} {s : List UInt8} (hs : isT L i s = true) (hn : s ≠ []) : takeI L i = i + 1 ∧ i + 1 < L.length := by
  refine h.take ?_
  unfold Go.Proofs.YtmbmngnnfkdngaaGreatDoor.isT at hs
  rw [eq_of_beq hs]
  exact hn
/-- What was read lies behind place i. -/
def Fwd {α : Type} (i : Nat) (N : Nat) (r : Res α) : Prop := ∀ x j la, r = some (.ok (x, j, la)) → i < j ∧ j < N
def FwdE (N : Nat) (e : Nat → Int → Res Ex) : Prop := ∀ i la, Fwd i N (e i la)
theorem go_ok {α β : Type} {r : Res α} {f : α → Nat → Int → Res β} {v : β × Nat × Int} (h : r.go f = some (.ok v)) : ∃ x i la, r = some (.ok (x, i, la)) ∧ f x i la = some (.ok v) := by
  unfold Res.go at h
  split at h
  · cases h
  · cases h
  · exact ⟨_, _, _, rfl, h⟩
theorem need_okP {α : Type} {L : List Tok} {s : List UInt8} {i : Nat} {f : Nat → Res α} {v : α × Nat × Int} (h : needP L s i f = some (.ok v)) : isT L i s = true ∧ f (takeI L i) = some (.ok v) := by
  unfold needP at h
  split at h
  · exact ⟨‹_›, h⟩
  · cases h
theorem pMore_fwd {L : List Tok} {e : Nat → Int → Res Ex} (hL : Ends L) (he : FwdE L.length e) (ops : List (List UInt8)) (hops : ops.contains [] = false) : ∀ g x i la y j lb, pMore L e ops g x i la = some (.ok (y, j, lb)) → i < L.length → i ≤ j ∧ j < L.length
  | 0, _, _, _, _, _, _, h, _ => by cases h
  | g + 1, x, i, la, y, j, lb, h, hi => by
    unfold pMore at h
    split at h
    · rename_i hc
      obtain ⟨z, k, lc, h1, h2⟩ := go_ok h
      obtain ⟨t1, t2⟩ := hL.take (i := i) (fun q => by rw [q, hops] at hc; cases hc)
      have a := he _ _ _ _ _ h1
      have b := pMore_fwd hL he ops hops g _ _ _ _ _ _ h2 a.2
      omega
    · cases h; exact ⟨Nat.le_refl _, hi⟩
theorem pChain_fwd {L : List Tok} {e : Nat → Int → Res Ex} (hL : Ends L) (he : FwdE L.length e) (ops : List (List UInt8)) (hops : ops.contains [] = false) (g i : Nat) (la : Int) : Fwd i L.length (pChain L e ops g i la) := by
  intro y j lb h
  obtain ⟨z, k, lc, h1, h2⟩ := go_ok h
  have a := he _ _ _ _ _ h1
  have b := pMore_fwd hL he ops hops g _ _ _ _ _ _ h2 a.2
  omega
theorem pArgs_fwd {L : List Tok} {e : Nat → Int → Res Ex} (hL : Ends L) (he : FwdE L.length e) : ∀ k acc i la ks j lb, pArgs L e k acc i la = some (.ok (ks, j, lb)) → i < L.length → i ≤ j ∧ j < L.length
  | 0, _, _, _, _, _, _, h, hi => by cases h; exact ⟨Nat.le_refl _, hi⟩
  | k + 1, acc, i, la, ks, j, lb, h, hi => by
    unfold pArgs at h
    split at h
    · obtain ⟨z, m, lc, h1, h2⟩ := go_ok h
      have a := he _ _ _ _ _ h1
      have b := pArgs_fwd hL he k _ _ _ _ _ _ h2 a.2
      omega
    · obtain ⟨hc, h'⟩ := need_okP h
      obtain ⟨z, m, lc, h1, h2⟩ := go_ok h'
      obtain ⟨t1, t2⟩ := hL.isT hc (by decide)
      have a := he _ _ _ _ _ h1
      have b := pArgs_fwd hL he k _ _ _ _ _ _ h2 a.2
      omega
theorem pLast_fwd {L : List Tok} (hL : Ends L) {op n : Int} {ks : List Ex} {i : Nat} {la : Int} : Fwd i L.length (pLast L op n ks i la) := by
  intro y j lb h
  obtain ⟨hc, h'⟩ := need_okP h
  obtain ⟨t1, t2⟩ := hL.isT hc (by decide)
  cases h'
  omega
theorem pCall_fwd {L : List Tok} {e : Nat → Int → Res Ex} (hL : Ends L) (he : FwdE L.length e) (op : Int) (i : Nat) (la : Int) : Fwd i L.length (pCall L e op i la) := by
  intro y j lb h
  obtain ⟨hc, h'⟩ := need_okP h
  obtain ⟨t1, t2⟩ := hL.isT hc (by decide)
  obtain ⟨ks, m, lc, h1, h2⟩ := go_ok h'
  have a := pArgs_fwd hL he _ _ _ _ _ _ _ h1 (by omega)
  split at h2
  · obtain ⟨hc2, h3⟩ := need_okP h2
    obtain ⟨t3, t4⟩ := hL.isT hc2 (by decide)
    split at h3
    · rename_i hk
      have := pLast_fwd hL _ _ _ h3
      have t5 : takeI L (takeI L m) = takeI L m + 1 := by unfold takeI; rw [if_neg]; intro q; exact absurd (show (tk L (takeI L m)).kind = 0 from q) (by rw [hk]; decide)
      omega
    · cases h3
  · have := pLast_fwd hL _ _ _ h2
    omega
theorem kind_take {L : List Tok} (hL : Ends L) {i : Nat} (h : (tk L i).kind ≠ 0) : takeI L i = i + 1 ∧ i + 1 < L.length := ⟨by unfold takeI; rw [if_neg h], hL.last i h⟩
theorem pPrim_fwd {L : List Tok} {e : Nat → Int → Res Ex} (hL : Ends L) (he : FwdE L.length e) (i : Nat) (la : Int) : Fwd i L.length (pPrim L e i la) := by
  intro y j lb h
  unfold pPrim at h
  split at h
  · rename_i hc
    obtain ⟨t1, t2⟩ := hL.isT hc (by decide)
    obtain ⟨x, m, lc, h1, h2⟩ := go_ok h
    have a := he _ _ _ _ _ h1
    obtain ⟨hc2, h3⟩ := need_okP h2
    obtain ⟨t3, t4⟩ := hL.isT hc2 (by decide)
    cases h3
    omega
  split at h
  · rename_i hc
    obtain ⟨t1, t2⟩ := hL.isT hc (by decide)
    cases h; omega
  split at h
  · rename_i hc
    obtain ⟨t1, t2⟩ := hL.isT hc (by decide)
    cases h; omega
  split at h
  · rename_i hc
    obtain ⟨t1, t2⟩ := hL.take (i := i) (fun q => by rw [q] at hc; exact absurd hc (by decide))
    have := pCall_fwd hL he _ _ _ _ _ _ h
    omega
  split at h
  · rename_i hk
    obtain ⟨t1, t2⟩ := kind_take hL (i := i) (by rw [hk]; decide)
    cases h; omega
  split at h
  · rename_i hk
    obtain ⟨t1, t2⟩ := kind_take hL (i := i) (by rw [hk.1]; decide)
    cases h; omega
  · cases h
theorem pLev_fwd {L : List Tok} (hL : Ends L) : ∀ f lv, FwdE L.length (pLev L f lv)
  | 0, _ => fun _ _ _ _ _ h => by cases h
  | f + 1, lv => by
    have ih := fun lv => pLev_fwd hL f lv
    intro i la
    cases lv <;> simp only [pLev]
    · exact pChain_fwd hL (ih _) _ (by decide) _ _ _
    · exact pChain_fwd hL (ih _) _ (by decide) _ _ _
    · exact pChain_fwd hL (ih _) _ (by decide) _ _ _
    · intro y j lb h
      split at h
      · rename_i hc
        obtain ⟨t1, t2⟩ := hL.isT hc (by decide)
        obtain ⟨x, m, lc, h1, h2⟩ := go_ok h
        have a := ih _ _ _ _ _ _ h1
        cases h2; omega
      · exact ih _ _ _ _ _ _ h
    · intro y j lb h
      obtain ⟨x, m, lc, h1, h2⟩ := go_ok h
      have a := ih _ _ _ _ _ _ h1
      split at h2
      · rename_i hc
        obtain ⟨t1, t2⟩ := hL.take (i := m) (fun q => by rw [q] at hc; exact absurd hc (by decide))
        obtain ⟨z, q, ld, h3, h4⟩ := go_ok h2
        have b := ih _ _ _ _ _ _ h3
        cases h4; omega
      · cases h2; exact a
    · exact pChain_fwd hL (ih _) _ (by decide) _ _ _
    · exact pPrim_fwd hL (ih _) _ _

/-- A part comes to an end. -/
def Fin {α : Type} (r : Res α) : Prop := ∃ v, r = some v
theorem Fin.go {α β : Type} {r : Res α} {f : α → Nat → Int → Res β} (hr : Fin r) (hf : ∀ x i la, r = some (.ok (x, i, la)) → Fin (f x i la)) : Fin (r.go f) := by
  obtain ⟨v, rfl⟩ := hr
  rcases v with e | ⟨x, i, la⟩
  · exact ⟨_, rfl⟩
  · exact hf x i la rfl
theorem Fin.need {α : Type} {L : List Tok} {s : List UInt8} {i : Nat} {f : Nat → Res α} (hf : isT L i s = true → Fin (f (takeI L i))) : Fin (needP L s i f) := by
  unfold needP
  split
  · exact hf ‹_›
  · exact ⟨_, rfl⟩
theorem pMore_fin {L : List Tok} {e : Nat → Int → Res Ex} (hL : Ends L) (he : FwdE L.length e) (ops : List (List UInt8)) (hops : ops.contains [] = false) : ∀ g x i la, (∀ j la, i < j → Fin (e j la)) → L.length - i < g → i < L.length → Fin (pMore L e ops g x i la)
  | 0, _, _, _, _, h, _ => absurd h (by omega)
  | g + 1, x, i, la, hf, hg, hi => by
    unfold pMore
    split
    · rename_i hc
      obtain ⟨t1, t2⟩ := hL.take (i := i) (fun q => by rw [q, hops] at hc; cases hc)
      refine (hf _ _ (by omega)).go fun y j lb h => ?_
      have a := he _ _ _ _ _ h
      exact pMore_fin hL he ops hops g _ _ _ (fun k lc hk => hf k lc (by omega)) (by omega) a.2
    · exact ⟨_, rfl⟩
theorem pChain_fin {L : List Tok} {e : Nat → Int → Res Ex} (hL : Ends L) (he : FwdE L.length e) (ops : List (List UInt8)) (hops : ops.contains [] = false) (g i : Nat) (la : Int) (hf : ∀ j la, i ≤ j → Fin (e j la)) (hg : L.length - i < g) : Fin (pChain L e ops g i la) :=
  (hf i la (Nat.le_refl _)).go fun x j lb h => by
    have a := he _ _ _ _ _ h
    exact pMore_fin hL he ops hops g _ _ _ (fun k lc hk => hf k lc (by omega)) (by omega) a.2
theorem pArgs_fin {L : List Tok} {e : Nat → Int → Res Ex} (hL : Ends L) (he : FwdE L.length e) : ∀ k acc i la, (∀ j la, i ≤ j → Fin (e j la)) → Fin (pArgs L e k acc i la)
  | 0, _, _, _, _ => ⟨_, rfl⟩
  | k + 1, acc, i, la, hf => by
    unfold pArgs
    split
    · exact (hf _ _ (Nat.le_refl _)).go fun y j lb h => pArgs_fin hL he k _ _ _ fun q lc hq => hf q lc (by have := he _ _ _ _ _ h; omega)
    · refine Fin.need fun hc => ?_
      obtain ⟨t1, t2⟩ := hL.isT hc (by decide)
      exact (hf _ _ (by omega)).go fun y j lb h => pArgs_fin hL he k _ _ _ fun q lc hq => hf q lc (by have := he _ _ _ _ _ h; omega)
theorem pCall_fin {L : List Tok} {e : Nat → Int → Res Ex} (hL : Ends L) (he : FwdE L.length e) (op : Int) (i : Nat) (la : Int) (hf : ∀ j la, i ≤ j → Fin (e j la)) : Fin (pCall L e op i la) := by
  refine Fin.need fun hc => ?_
  obtain ⟨t1, t2⟩ := hL.isT hc (by decide)
  refine (pArgs_fin hL he _ _ _ _ fun j lb hj => hf j lb (by omega)).go fun ks j lb _ => ?_
  split
  · refine Fin.need fun _ => ?_
    split
    · exact Fin.need fun _ => ⟨_, rfl⟩
    · exact ⟨_, rfl⟩
  · exact Fin.need fun _ => ⟨_, rfl⟩
theorem pPrim_fin {L : List Tok} {e : Nat → Int → Res Ex} (hL : Ends L) (he : FwdE L.length e) (i : Nat) (la : Int) (hf : ∀ j la, i < L.length → i < j → Fin (e j la)) : Fin (pPrim L e i la) := by
  unfold pPrim
  split
  · rename_i hc
    obtain ⟨t1, t2⟩ := hL.isT hc (by decide)
    exact (hf _ _ (by omega) (by omega)).go fun _ _ _ _ => Fin.need fun _ => ⟨_, rfl⟩
  split
  · exact ⟨_, rfl⟩
  split
  · exact ⟨_, rfl⟩
  split
  · rename_i hc
    obtain ⟨t1, t2⟩ := hL.take (i := i) (fun q => by rw [q] at hc; exact absurd hc (by decide))
    exact pCall_fin hL he _ _ _ fun j lb hj => hf j lb (by omega) (by omega)
  split
  · exact ⟨_, rfl⟩
  split
  · exact ⟨_, rfl⟩
  · exact ⟨_, rfl⟩
def rankL : Lv → Nat
  | .expr => 7 | .xor => 6 | .conj => 5 | .neg => 4 | .rel => 3 | .sum => 2 | .prim => 1
theorem pLev_fin {L : List Tok} (hL : Ends L) : ∀ f lv i la, 8 * (L.length - i) + rankL lv ≤ f → Fin (pLev L f lv i la)
  | 0, lv, _, _, h => by cases lv <;> simp [rankL] at h
  | f + 1, lv, i, la, h => by
    have ih := fun lv i la => pLev_fin hL f lv i la
    have fw := fun lv => pLev_fwd hL f lv
    cases lv <;> simp only [pLev] <;> simp only [rankL] at h ih
    · exact pChain_fin hL (fw _) _ (by decide) _ _ _ (fun j lb hj => ih .xor j lb (by simp only []; omega)) (by omega)
    · exact pChain_fin hL (fw _) _ (by decide) _ _ _ (fun j lb hj => ih .conj j lb (by simp only []; omega)) (by omega)
    · exact pChain_fin hL (fw _) _ (by decide) _ _ _ (fun j lb hj => ih .neg j lb (by simp only []; omega)) (by omega)
    · split
      · rename_i hc
        obtain ⟨t1, t2⟩ := hL.isT hc (by decide)
        exact (ih .neg _ _ (by simp only []; omega)).go fun _ _ _ _ => ⟨_, rfl⟩
      · exact ih .rel _ _ (by simp only []; omega)
    · refine (ih .sum _ _ (by simp only []; omega)).go fun x j lb hx => ?_
      have a := fw _ _ _ _ _ _ hx
      split
      · rename_i hc
        obtain ⟨t1, t2⟩ := hL.take (i := j) (fun q => by rw [q] at hc; exact absurd hc (by decide))
        exact (ih .sum _ _ (by simp only []; omega)).go fun _ _ _ _ => ⟨_, rfl⟩
      · exact ⟨_, rfl⟩
    · exact pChain_fin hL (fw _) _ (by decide) _ _ _ (fun j lb hj => ih .prim j lb (by simp only []; omega)) (by omega)
    · exact pPrim_fin hL (fw _) _ _ fun j lb hi hj => ih .expr j lb (by simp only []; omega)
/-- The parser's errors are of one kind. -/
def Err6 {α : Type} (r : Res α) : Prop := ∀ a e, r = some (.error (a, e)) → e = 6
theorem Err6.go {α β : Type} {r : Res α} {f : α → Nat → Int → Res β} (hr : Err6 r) (hf : ∀ x i la, Err6 (f x i la)) : Err6 (r.go f) := by
  intro a e h
  unfold Res.go at h
  split at h
  · cases h
  · cases h; exact hr a e rfl
  · exact hf _ _ _ a e h
theorem Err6.ok {α : Type} (v : α × Nat × Int) : Err6 (some (.ok v) : Res α) := fun _ _ h => by cases h
theorem Err6.stop {α : Type} (L : List Tok) (i : Nat) : Err6 (stopT L i : Res α) := fun _ _ h => by cases h; rfl
theorem Err6.need {α : Type} {L : List Tok} {s : List UInt8} {i : Nat} {f : Nat → Res α} (hf : ∀ j, Err6 (f j)) : Err6 (needP L s i f) := by
  unfold needP
  split
  · exact hf _
  · exact Err6.stop _ _
theorem pMore_err {L : List Tok} {e : Nat → Int → Res Ex} (he : ∀ i la, Err6 (e i la)) (ops : List (List UInt8)) : ∀ g x i la, Err6 (pMore L e ops g x i la)
  | 0, _, _, _ => fun _ _ h => by cases h
  | g + 1, x, i, la => by
    unfold pMore
    split
    · exact (he _ _).go fun _ _ _ => pMore_err he ops g _ _ _
    · exact Err6.ok _
theorem pArgs_err {L : List Tok} {e : Nat → Int → Res Ex} (he : ∀ i la, Err6 (e i la)) : ∀ k acc i la, Err6 (pArgs L e k acc i la)
  | 0, _, _, _ => Err6.ok _
  | k + 1, acc, i, la => by
    unfold pArgs
    split
    · exact (he _ _).go fun _ _ _ => pArgs_err he k _ _ _
    · exact Err6.need fun _ => (he _ _).go fun _ _ _ => pArgs_err he k _ _ _
theorem pCall_err {L : List Tok} {e : Nat → Int → Res Ex} (he : ∀ i la, Err6 (e i la)) (op : Int) (i : Nat) (la : Int) : Err6 (pCall L e op i la) := by
  refine Err6.need fun _ => (pArgs_err he _ _ _ _).go fun _ _ _ => ?_
  split
  · refine Err6.need fun _ => ?_
    split
    · exact Err6.need fun _ => Err6.ok _
    · exact Err6.stop _ _
  · exact Err6.need fun _ => Err6.ok _
theorem pPrim_err {L : List Tok} {e : Nat → Int → Res Ex} (he : ∀ i la, Err6 (e i la)) (i : Nat) (la : Int) : Err6 (pPrim L e i la) := by
  unfold pPrim
  split
  · exact (he _ _).go fun _ _ _ => Err6.need fun _ => Err6.ok _
  split
  · exact Err6.ok _
  split
  · exact Err6.ok _
  split
  · exact pCall_err he _ _ _
  split
  · exact Err6.ok _
  split
  · exact Err6.ok _
  · exact Err6.stop _ _
theorem pLev_err6 (L : List Tok) : ∀ f lv i la, Err6 (pLev L f lv i la)
  | 0, _, _, _ => fun _ _ h => by cases h
  | f + 1, lv, i, la => by
    have ih := fun lv i la => pLev_err6 L f lv i la
    cases lv <;> simp only [pLev]
    · exact (ih _ _ _).go fun _ _ _ => pMore_err (ih _) _ _ _ _ _
    · exact (ih _ _ _).go fun _ _ _ => pMore_err (ih _) _ _ _ _ _
    · exact (ih _ _ _).go fun _ _ _ => pMore_err (ih _) _ _ _ _ _
    · split
      · exact (ih _ _ _).go fun _ _ _ => Err6.ok _
      · exact ih _ _ _
    · refine (ih _ _ _).go fun _ _ _ => ?_
      split
      · exact (ih _ _ _).go fun _ _ _ => Err6.ok _
      · exact Err6.ok _
    · exact (ih _ _ _).go fun _ _ _ => pMore_err (ih _) _ _ _ _ _
    · exact pPrim_err (ih _) _ _
theorem pLev_err {L : List Tok} {f : Nat} {lv : Lv} {i : Nat} {la a : Int} (h : pLev L f lv i la = some (.error (a, 0))) : False := absurd (pLev_err6 L f lv i la a 0 h) (by decide)
end Go.Proofs.YtmbmngnnfkdngaaGreatDoor
