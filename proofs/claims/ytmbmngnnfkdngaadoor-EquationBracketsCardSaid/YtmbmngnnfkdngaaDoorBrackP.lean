/-
  Brackets around a text and spaces at its ends leave no trace, in plain words. No program is named here.
-/
import Derived.Test.YtmbmngnnfkdngaaDoorRoundP
namespace Go.Proofs.YtmbmngnnfkdngaaDoor

def shT (k : Tok) : Tok := ⟨k.kind, k.text, k.pos + 2, k.n⟩
/-- The text with its brackets. -/
def brack (t : List UInt8) : List UInt8 := 32 :: 40 :: (t ++ [41, 32])
theorem brack_len (t : List UInt8) : (brack t).length = t.length + 4 := by simp [brack]
theorem brack_drop (t : List UInt8) (i : Nat) (h : i ≤ t.length) : (brack t).drop (i + 2) = t.drop i ++ [41, 32] := by
  show (t ++ [41, 32]).drop i = _
  rw [List.drop_append_of_le_length h]
theorem brack_get {t : List UInt8} {i : Nat} {c : UInt8} (h : t[i]? = some c) : (brack t)[i + 2]? = some c := by
  obtain ⟨hi, -⟩ := List.getElem?_eq_some_iff.1 h
  show (t ++ [41, 32])[i]? = _
  rw [List.getElem?_append_left hi, h]
theorem takeWhile_tail (p : UInt8 → Bool) (hp : p 41 = false) (r : List UInt8) : ∀ a : List UInt8, (a ++ 41 :: r).takeWhile p = a.takeWhile p
  | [] => by rw [List.nil_append, List.takeWhile_cons, hp]; rfl
  | x :: a => by
    rw [List.cons_append, List.takeWhile_cons, List.takeWhile_cons, takeWhile_tail p hp r a]
theorem brack_run (p : UInt8 → Bool) (hp : p 41 = false) (t : List UInt8) (i : Nat) (h : i ≤ t.length) : (brack t |>.drop (i + 2)).takeWhile p = (t.drop i).takeWhile p := by
  rw [brack_drop t i h, takeWhile_tail p hp]
theorem tokAt_brack {t : List UInt8} {i : Nat} {c : UInt8} (h : t[i]? = some c) {o : Option Tok} {j : Nat} (hk : tokAt t i c = .ok (o, j)) : tokAt (brack t) (i + 2) c = .ok (o.map shT, j + 2) := by
  obtain ⟨hi, -⟩ := List.getElem?_eq_some_iff.1 h
  have hw := brack_run wordB (by decide) t (i + 1) (by omega)
  have hd := brack_run digitB (by decide) t (i + 1) (by omega)
  have rw1 : runB wordB (brack t) (i + 2 + 1) = runB wordB t (i + 1) + 2 := by
    unfold runB
    rw [show i + 2 + 1 = i + 1 + 2 by omega, hw]; omega
  have rd1 : runB digitB (brack t) (i + 2 + 1) = runB digitB t (i + 1) + 2 := by
    unfold runB
    rw [show i + 2 + 1 = i + 1 + 2 by omega, hd]; omega
  have cw : cutB (brack t) (i + 2) (runB wordB t (i + 1) + 2) = cutB t i (runB wordB t (i + 1)) := by
    rw [← rw1, cut_run wordB _ _ c (brack_get h), cut_run wordB _ _ c h, show i + 2 + 1 = i + 1 + 2 by omega, hw]
  have cd : cutB (brack t) (i + 2) (runB digitB t (i + 1) + 2) = cutB t i (runB digitB t (i + 1)) := by
    rw [← rd1, cut_run digitB _ _ c (brack_get h), cut_run digitB _ _ c h, show i + 2 + 1 = i + 1 + 2 by omega, hd]
  unfold tokAt at hk ⊢
  rw [rw1, rd1, cw, cd]
  split at hk
  · rename_i h1
    cases hk
    rw [if_pos h1]
    rfl
  rename_i h1
  rw [if_neg h1]
  split at hk
  · rename_i h2
    rw [if_pos h2]
    split at hk
    · cases hk
    · rename_i h3
      cases hk
      rw [if_neg (by omega)]
      rfl
  rename_i h2
  rw [if_neg h2]
  split at hk
  · rename_i h3
    rw [if_pos h3]
    split at hk
    · cases hk
    · rename_i h4
      cases hk
      rw [if_neg h4]
      rfl
  rename_i h3
  rw [if_neg h3]
  split at hk
  · rename_i h4
    cases hk
    rw [if_pos h4]
    rfl
  · cases hk
theorem toksG_brack (t : List UInt8) (A : List Tok) : ∀ f i acc l F, i ≤ t.length → t.length - i < f → (brack t).length - (i + 2) < F → toksG t f i acc = .ok l → ∃ F', (brack t).length - (t.length + 2) < F' ∧ toksG (brack t) F (i + 2) (A ++ acc.map shT) = toksG (brack t) F' (t.length + 2) (A ++ l.map shT)
  | 0, _, _, _, _, _, h, _, _ => absurd h (by omega)
  | f + 1, i, acc, l, 0, _, _, h, _ => absurd h (by omega)
  | f + 1, i, acc, l, F + 1, hi, hf, hF, h => by
    have hb := brack_len t
    unfold toksG at h
    split at h
    · rename_i hc
      cases h
      have : t.length ≤ i := by simpa using hc
      obtain rfl : i = t.length := by omega
      exact ⟨F + 1, hF, rfl⟩
    · rename_i c hc
      have hg := brack_get hc
      obtain ⟨hil, -⟩ := List.getElem?_eq_some_iff.1 hc
      split at h
      · cases h
      · rename_i j hk
        obtain ⟨h1, h2, -⟩ := tokAt_ok hc hk
        obtain ⟨F', a, b⟩ := toksG_brack t A f j acc l F h2 (by omega) (by omega) h
        refine ⟨F', a, ?_⟩
        rw [toksG, hg]
        simp only [tokAt_brack hc hk]
        exact b
      · rename_i k j hk
        obtain ⟨h1, h2, -⟩ := tokAt_ok hc hk
        obtain ⟨F', a, b⟩ := toksG_brack t A f j (acc ++ [k]) l F h2 (by omega) (by omega) h
        refine ⟨F', a, ?_⟩
        rw [toksG, hg]
        simp only [tokAt_brack hc hk]
        rw [List.map_append, ← List.append_assoc] at b
        exact b
theorem toksP_brack {t : List UInt8} {l : List Tok} (h : toksP t = .ok l) : toksP (brack t) = .ok ([⟨3, [40], 1, 0⟩] ++ l.map shT ++ [⟨3, [41], ((t.length + 2 : Nat) : Int), 0⟩]) := by
  have hb := brack_len t
  obtain ⟨F', a, b⟩ := toksG_brack t [⟨3, [40], 1, 0⟩] (t.length + 1) 0 [] l (t.length + 3) (Nat.zero_le _) (by omega) (by omega) h
  unfold toksP
  rw [hb]
  have e1 : toksG (brack t) (t.length + 4 + 1) 0 [] = toksG (brack t) (t.length + 3) 2 ([⟨3, [40], 1, 0⟩] ++ ([] : List Tok).map shT) := by
    rw [show t.length + 4 + 1 = t.length + 3 + 1 + 1 by omega, toksG]
    show toksG (brack t) (t.length + 3 + 1) 1 [] = _
    rw [toksG]
    rfl
  rw [e1, b]
  have g1 : (brack t)[t.length + 2]? = some 41 := by
    show (t ++ [41, 32])[t.length]? = _
    rw [List.getElem?_append_right (Nat.le_refl _)]; simp
  have g2 : (brack t)[t.length + 2 + 1]? = some 32 := by
    show (t ++ [41, 32])[t.length + 1]? = _
    rw [List.getElem?_append_right (by omega)]; simp
  have g3 : (brack t)[t.length + 2 + 1 + 1]? = none := List.getElem?_eq_none (by omega)
  obtain ⟨q, rfl⟩ : ∃ q, F' = q + 1 + 1 + 1 := ⟨F' - 3, by omega⟩
  have k1 : tokAt (brack t) (t.length + 2) 41 = .ok (some ⟨3, [41], ((t.length + 2 : Nat) : Int), 0⟩, t.length + 2 + 1) := rfl
  have k2 : tokAt (brack t) (t.length + 2 + 1) 32 = .ok (none, t.length + 2 + 1 + 1) := rfl
  rw [toksG, g1]
  simp only [k1]
  rw [toksG, g2]
  simp only [k2]
  rw [toksG, g3]

/-- L' is L one place on, with a closing bracket in the place of its end. -/
structure Sim (L L' : List Tok) (m : Nat) : Prop where
  same : ∀ i, i < m → (tk L' (i + 1)).kind = (tk L i).kind ∧ (tk L' (i + 1)).text = (tk L i).text ∧ (tk L' (i + 1)).n = (tk L i).n ∧ (tk L i).kind ≠ 0 ∧ 0 ≤ (tk L i).pos ∧ 0 ≤ (tk L' (i + 1)).pos
  fin : (tk L m).kind = 0 ∧ (tk L m).text = []
  fin' : (tk L' (m + 1)).text = [41]
theorem Sim.take {L L' : List Tok} {m : Nat} (h : Sim L L' m) {i : Nat} (hi : i < m) : takeI L' (i + 1) = takeI L i + 1 ∧ takeI L i = i + 1 := by
  obtain ⟨a, -, -, b, -, -⟩ := h.same i hi
  unfold takeI
  rw [a, if_neg b, if_neg b]
  exact ⟨rfl, rfl⟩
theorem Sim.tst {L L' : List Tok} {m : Nat} (h : Sim L L' m) {i : Nat} (hi : i < m) (s : List UInt8) : isT L' (i + 1) s = isT L i s := by
  unfold isT
  rw [(h.same i hi).2.1]
theorem Sim.on {L L' : List Tok} {m : Nat} (h : Sim L L' m) {i : Nat} (hi : i ≤ m) {s : List UInt8} (hs : isT L i s = true) (hn : s ≠ []) : i < m := by
  rcases Nat.lt_or_ge i m with q | q
  · exact q
  · obtain rfl : i = m := by omega
    unfold isT at hs
    rw [h.fin.2] at hs
    exact absurd (eq_of_beq hs).symm hn
theorem Sim.has {L L' : List Tok} {m : Nat} (h : Sim L L' m) {i : Nat} (hi : i ≤ m) {ops : List (List UInt8)} (h0 : ops.contains [] = false) (h1 : ops.contains [41] = false) : ops.contains (tk L' (i + 1)).text = ops.contains (tk L i).text ∧ (ops.contains (tk L i).text = true → i < m) := by
  rcases Nat.lt_or_ge i m with q | q
  · rw [(h.same i q).2.1]; exact ⟨rfl, fun _ => q⟩
  · obtain rfl : i = m := by omega
    rw [h.fin.2, h.fin', h0, h1]; exact ⟨rfl, fun q => by cases q⟩
theorem Sim.is {L L' : List Tok} {m : Nat} (h : Sim L L' m) {i : Nat} (hi : i ≤ m) {s : List UInt8} (h0 : s ≠ []) (h1 : s ≠ [41]) : isT L' (i + 1) s = isT L i s := by
  rcases Nat.lt_or_ge i m with q | q
  · exact h.tst q s
  · obtain rfl : i = m := by omega
    unfold isT
    rw [h.fin.2, h.fin']
    have a : (([] : List UInt8) == s) = false := by rw [beq_eq_false_iff_ne]; exact fun q => h0 q.symm
    have b : (([41] : List UInt8) == s) = false := by rw [beq_eq_false_iff_ne]; exact fun q => h1 q.symm
    rw [a, b]
def SimL (la la' : Int) : Prop := la < 0 ↔ la' < 0
/-- What a part reads in L it reads in L', one place on. -/
def SimR {α : Type} (m : Nat) (r r' : Res α) : Prop := ∀ x j la, r = some (.ok (x, j, la)) → j ≤ m ∧ ∃ la', SimL la la' ∧ r' = some (.ok (x, j + 1, la'))
def SimE (m : Nat) (e e' : Nat → Int → Res Ex) : Prop := ∀ i la la', i ≤ m → SimL la la' → SimR m (e i la) (e' (i + 1) la')
theorem SimR.go {α β : Type} {m : Nat} {r r' : Res α} {f f' : α → Nat → Int → Res β} (hr : SimR m r r') (hf : ∀ x i la la', i ≤ m → SimL la la' → SimR m (f x i la) (f' x (i + 1) la')) : SimR m (r.go f) (r'.go f') := by
  intro y j lb h
  obtain ⟨x, i, la, h1, h2⟩ := go_ok h
  obtain ⟨hi, la', hl, e⟩ := hr x i la h1
  rw [e]
  exact hf x i la la' hi hl y j lb h2
theorem SimR.need {α : Type} {L L' : List Tok} {m : Nat} (hS : Sim L L' m) {s : List UInt8} (hs : s ≠ []) {i : Nat} (hi : i ≤ m) {f f' : Nat → Res α} (hf : ∀ j, j ≤ m → SimR m (f j) (f' (j + 1))) : SimR m (needP L s i f) (needP L' s (i + 1) f') := by
  intro y j lb h
  obtain ⟨h1, h2⟩ := need_okP h
  have hm := hS.on hi h1 hs
  obtain ⟨t1, t2⟩ := hS.take hm
  unfold needP
  rw [hS.tst hm, h1, if_pos rfl, t1]
  exact hf _ (by omega) y j lb h2
theorem SimR.ret {α : Type} {m : Nat} {x : α} {i : Nat} {la la' : Int} (hi : i ≤ m) (hl : SimL la la') : SimR m (some (.ok (x, i, la)) : Res α) (some (.ok (x, i + 1, la'))) := fun y j lb h => by
  cases h
  exact ⟨hi, la', hl, rfl⟩
theorem pMore_sim {L L' : List Tok} {m : Nat} (hS : Sim L L' m) {e e' : Nat → Int → Res Ex} (he : SimE m e e') {ops : List (List UInt8)} (h0 : ops.contains [] = false) (h1 : ops.contains [41] = false) : ∀ g x i la la', i ≤ m → SimL la la' → SimR m (pMore L e ops g x i la) (pMore L' e' ops g x (i + 1) la')
  | 0, _, _, _, _, _, _ => fun _ _ _ h => by cases h
  | g + 1, x, i, la, la', hi, hl => by
    obtain ⟨a, b⟩ := hS.has hi h0 h1
    unfold pMore
    rw [a]
    split
    · rename_i hc
      have hm := b hc
      obtain ⟨t1, t2⟩ := hS.take hm
      rw [t1, (hS.same i hm).2.1]
      exact (he _ _ _ (by omega) hl).go fun y j lb lb' hj hlb => pMore_sim hS he h0 h1 g _ _ _ _ hj hlb
    · exact SimR.ret hi hl
theorem pChain_sim {L L' : List Tok} {m : Nat} (hS : Sim L L' m) {e e' : Nat → Int → Res Ex} (he : SimE m e e') {ops : List (List UInt8)} (h0 : ops.contains [] = false) (h1 : ops.contains [41] = false) (g i : Nat) (la la' : Int) (hi : i ≤ m) (hl : SimL la la') : SimR m (pChain L e ops g i la) (pChain L' e' ops g (i + 1) la') :=
  (he i la la' hi hl).go fun _ _ _ _ hj hlb => pMore_sim hS he h0 h1 g _ _ _ _ hj hlb
theorem pArgs_sim {L L' : List Tok} {m : Nat} (hS : Sim L L' m) {e e' : Nat → Int → Res Ex} (he : SimE m e e') : ∀ k acc i la la', i ≤ m → SimL la la' → SimR m (pArgs L e k acc i la) (pArgs L' e' k acc (i + 1) la')
  | 0, _, _, _, _, hi, hl => SimR.ret hi hl
  | k + 1, acc, i, la, la', hi, hl => by
    unfold pArgs
    split
    · exact (he _ _ _ hi hl).go fun y j lb lb' hj hlb => pArgs_sim hS he k _ _ _ _ hj hlb
    · exact SimR.need hS (by decide) hi fun j hj => (he _ _ _ hj hl).go fun y j lb lb' hj hlb => pArgs_sim hS he k _ _ _ _ hj hlb
theorem pLast_sim {L L' : List Tok} {m : Nat} (hS : Sim L L' m) (op n : Int) (ks : List Ex) {i : Nat} {la la' : Int} (hi : i ≤ m) (hl : SimL la la') : SimR m (pLast L op n ks i la) (pLast L' op n ks (i + 1) la') :=
  SimR.need hS (by decide) hi fun _ hj => SimR.ret hj hl
theorem pCall_sim {L L' : List Tok} {m : Nat} (hS : Sim L L' m) {e e' : Nat → Int → Res Ex} (he : SimE m e e') (op : Int) (i : Nat) (la la' : Int) (hi : i ≤ m) (hl : SimL la la') : SimR m (pCall L e op i la) (pCall L' e' op (i + 1) la') := by
  refine SimR.need hS (by decide) hi fun i1 h1 => (pArgs_sim hS he _ _ _ _ _ h1 hl).go fun ks i2 lb lb' h2 hlb => ?_
  split
  · refine SimR.need hS (by decide) h2 fun i3 h3 => ?_
    rcases Nat.lt_or_ge i3 m with q | q
    · obtain ⟨s1, s2, s3, s4, s5, s6⟩ := hS.same i3 q
      obtain ⟨t1, t2⟩ := hS.take q
      rw [s1, s3, t1]
      split
      · refine pLast_sim hS _ _ _ (by omega) ?_
        by_cases h500 : 500 < (tk L i3).n
        · by_cases hneg : lb < 0
          · rw [if_pos ⟨h500, hneg⟩, if_pos ⟨h500, hlb.1 hneg⟩]
            unfold SimL; omega
          · rw [if_neg (fun q => hneg q.2), if_neg (fun q => hneg (hlb.2 q.2))]
            exact hlb
        · rw [if_neg (fun q => h500 q.1), if_neg (fun q => h500 q.1)]
          exact hlb
      · exact fun _ _ _ h => by cases h
    · obtain rfl : i3 = m := by omega
      rw [hS.fin.1]
      exact fun _ _ _ h => by cases h
  · exact pLast_sim hS _ _ _ h2 hlb
theorem pPrim_sim {L L' : List Tok} {m : Nat} (hS : Sim L L' m) {e e' : Nat → Int → Res Ex} (he : SimE m e e') (i : Nat) (la la' : Int) (hi : i ≤ m) (hl : SimL la la') : SimR m (pPrim L e i la) (pPrim L' e' (i + 1) la') := by
  rcases Nat.lt_or_ge i m with q | q
  · obtain ⟨s1, s2, s3, s4, s5, s6⟩ := hS.same i q
    obtain ⟨t1, t2⟩ := hS.take q
    unfold pPrim
    rw [hS.tst q, hS.tst q, hS.tst q, s1, s2, s3, t1]
    split
    · exact (he _ _ _ (by omega) hl).go fun x j lb lb' hj hlb => SimR.need hS (by decide) hj fun _ hk => SimR.ret hk hlb
    split
    · exact SimR.ret (by omega) hl
    split
    · exact SimR.ret (by omega) hl
    split
    · exact pCall_sim hS he _ _ _ _ (by omega) hl
    split
    · exact SimR.ret (by omega) hl
    split
    · exact SimR.ret (by omega) hl
    · exact fun _ _ _ h => by cases h
  · obtain rfl : i = m := by omega
    intro x j lb h
    exfalso
    unfold pPrim isT at h
    rw [hS.fin.1, hS.fin.2] at h
    simp [callWords, stopT] at h
theorem pLev_sim {L L' : List Tok} {m : Nat} (hS : Sim L L' m) : ∀ f lv, SimE m (pLev L f lv) (pLev L' f lv)
  | 0, _ => fun _ _ _ _ _ _ _ _ h => by cases h
  | f + 1, lv => by
    have ih := fun lv => pLev_sim hS f lv
    intro i la la' hi hl
    cases lv <;> simp only [pLev]
    · exact pChain_sim hS (ih _) (by decide) (by decide) _ _ _ _ hi hl
    · exact pChain_sim hS (ih _) (by decide) (by decide) _ _ _ _ hi hl
    · exact pChain_sim hS (ih _) (by decide) (by decide) _ _ _ _ hi hl
    · rw [hS.is hi (by decide) (by decide)]
      split
      · rename_i hc
        have hm := hS.on hi hc (by decide)
        obtain ⟨t1, t2⟩ := hS.take hm
        rw [t1]
        exact (ih _ _ _ _ (by omega) hl).go fun x j lb lb' hj hlb => SimR.ret hj hlb
      · exact ih _ _ _ _ hi hl
    · refine (ih _ _ _ _ hi hl).go fun x j lb lb' hj hlb => ?_
      obtain ⟨a, b⟩ := hS.has hj (ops := [[60], [62], [61]]) (by decide) (by decide)
      rw [a]
      split
      · rename_i hc
        have hm := b hc
        obtain ⟨t1, t2⟩ := hS.take hm
        rw [t1, (hS.same j hm).2.1]
        exact (ih _ _ _ _ (by omega) hlb).go fun y k lc lc' hk hlc => SimR.ret hk hlc
      · exact SimR.ret hj hlb
    · exact pChain_sim hS (ih _) (by decide) (by decide) _ _ _ _ hi hl
    · exact pPrim_sim hS (ih _) _ _ _ hi hl
theorem tk_get {L : List Tok} {i : Nat} {k : Tok} (h : L[i]? = some k) : tk L i = k := by unfold tk; rw [List.getD_eq_getElem?_getD, h]; rfl
theorem sim_brack {t : List UInt8} {l : List Tok} (hw : ∀ k ∈ l, TokW t k) : Sim (l ++ [endTok t]) (([⟨3, [40], 1, 0⟩] ++ l.map shT ++ [⟨3, [41], ((t.length + 2 : Nat) : Int), 0⟩]) ++ [endTok (brack t)]) l.length := by
  refine ⟨fun i hi => ?_, ?_, ?_⟩
  · have e1 : tk (l ++ [endTok t]) i = l[i] := tk_get (by rw [List.getElem?_append_left hi, List.getElem?_eq_getElem hi])
    have e2 : tk (([⟨3, [40], 1, 0⟩] ++ l.map shT ++ [⟨3, [41], ((t.length + 2 : Nat) : Int), 0⟩]) ++ [endTok (brack t)]) (i + 1) = shT l[i] := tk_get (by
      rw [List.getElem?_append_left (by simp; omega), List.getElem?_append_left (by simp; omega)]
      show (l.map shT)[i]? = _
      rw [List.getElem?_map, List.getElem?_eq_getElem hi]; rfl)
    have hT := hw l[i] (List.getElem_mem hi)
    rw [e1, e2]
    have := hT.kind
    have := hT.pos
    refine ⟨rfl, rfl, rfl, by omega, by omega, ?_⟩
    show 0 ≤ l[i].pos + 2
    omega
  · rw [tk_get (k := endTok t) (by rw [List.getElem?_append_right (Nat.le_refl _)]; simp)]
    exact ⟨rfl, rfl⟩
  · rw [tk_get (k := ⟨3, [41], ((t.length + 2 : Nat) : Int), 0⟩) (by
      rw [List.getElem?_append_left (by simp), List.getElem?_append_right (by simp)]
      simp)]
/-- Brackets and spaces leave no trace. -/
theorem parse_brack {t : List UInt8} (ht : t.length ≤ 116) {x : Ex} {a : Int} (h : parseP t = (x, a, 0)) : parseP (brack t) = (x, 0, 0) := by
  have hF := parseP_eq t
  rw [h] at hF
  unfold parseF at hF
  rw [if_neg (by omega)] at hF
  cases hT : toksP t with
  | error e =>
    rw [hT] at hF
    exfalso
    obtain ⟨p, er⟩ := e
    simp only [Option.some.injEq, Prod.mk.injEq] at hF
    obtain ⟨-, -, rfl⟩ := hF
    have key : ∀ f i acc, toksG t f i acc ≠ .error (p, 0) := by
      intro f
      induction f with
      | zero => intro i acc q; cases q
      | succ f ih =>
        intro i acc q
        unfold toksG at q
        split at q
        · cases q
        · rename_i c hc
          split at q
          · rename_i e' he'
            cases q
            unfold tokAt at he'
            repeat' split at he'
            all_goals first | cases he' | (injection he' with he'; injection he' with _ he'; exact absurd he' (by decide))
          · exact ih _ _ q
          · exact ih _ _ q
    exact key _ _ _ hT
  | ok l =>
    rw [hT] at hF
    obtain ⟨hw, hlen⟩ := toksP_ok hT
    simp only at hF
    split at hF
    · cases hF
    · rename_i a' e' hq
      exfalso
      simp only [Option.some.injEq, Prod.mk.injEq] at hF
      obtain ⟨-, -, rfl⟩ := hF
      exact pLev_err hq
    · rename_i x' i' late hq
      have hS := sim_brack hw
      injection hF with hF
      unfold endP at hF
      split at hF
      · injection hF with _ hF; injection hF with _ hF; exact absurd hF (by decide)
      rename_i hk0
      split at hF
      · injection hF with _ hF; injection hF with _ hF; exact absurd hF (by decide)
      rename_i hlate
      split at hF
      · rename_i hv
        injection hF with hx _
        obtain rfl : x' = x := hx
        obtain ⟨hi', late', hl', he'⟩ := pLev_sim hS 1000 .expr 0 (-1) (-1) (Nat.zero_le _) Iff.rfl _ _ _ hq
        have hi2 : i' = l.length := by
          rcases Nat.lt_or_ge i' l.length with q | q
          · exact absurd (hS.same i' q).2.2.2.1 hk0
          · omega
        subst hi2
        refine parseP_any (f := 1000 + 7) ?_
        unfold parseF
        rw [if_neg (by rw [brack_len]; omega), toksP_brack hT]
        simp only
        generalize hL' : [⟨3, [40], 1, 0⟩] ++ l.map shT ++ [⟨3, [41], ((t.length + 2 : Nat) : Int), 0⟩] ++ [endTok (brack t)] = L' at *
        have t0 : tk L' 0 = ⟨3, [40], 1, 0⟩ := by rw [← hL']; rfl
        have t1 : (tk L' (l.length + 1)).text = [41] := hS.fin'
        have t1k : (tk L' (l.length + 1)).kind = 3 := by
          rw [← hL', tk_get (k := ⟨3, [41], ((t.length + 2 : Nat) : Int), 0⟩) (by
            rw [List.getElem?_append_left (by simp), List.getElem?_append_right (by simp)]
            simp)]
        have t2 : tk L' (l.length + 2) = endTok (brack t) := by
          rw [← hL']
          exact tk_get (by rw [List.getElem?_append_right (by simp)]; simp)
        have tk0 : takeI L' 0 = 1 := by unfold takeI; rw [t0]; rfl
        have tk1 : takeI L' (l.length + 1) = l.length + 2 := by unfold takeI; rw [t1k]; rfl
        have p0 : pLev L' 1001 .prim 0 (-1) = some (.ok (x', l.length + 2, late')) := by
          rw [show (1001 : Nat) = 1000 + 1 by rfl, pLev, pPrim]
          unfold isT
          rw [t0, tk0]
          show ((pLev L' 1000 .expr 1 (-1)).go fun x j la => needP L' [41] j fun k => some (.ok (x, k, la))) = _
          rw [he']
          simp only [Res.go]
          unfold needP isT
          rw [t1, tk1]
          rfl
        have f2 : (tk L' (l.length + 2)).text = [] := by rw [t2]; rfl
        have up : ∀ (lv sub : Lv) (ops : List (List UInt8)) (g : Nat), IsChain lv sub ops → ops.contains [] = false → pLev L' (g + 1) sub 0 (-1) = some (.ok (x', l.length + 2, late')) → pLev L' (g + 1 + 1) lv 0 (-1) = some (.ok (x', l.length + 2, late')) := by
          intro lv sub ops g hc h0 hs
          rw [hc, pChain, hs]
          show pMore L' _ ops (g + 1) x' (l.length + 2) late' = _
          rw [pMore, f2, h0]
          rfl
        have p1 := up .sum .prim _ 1000 ch_sum (by decide) p0
        have p2 : pLev L' (1000 + 1 + 1 + 1) .rel 0 (-1) = some (.ok (x', l.length + 2, late')) := by
          rw [pLev, p1]
          show (if _ then _ else _) = _
          rw [f2]
          rfl
        have p3 : pLev L' (1000 + 1 + 1 + 1 + 1) .neg 0 (-1) = some (.ok (x', l.length + 2, late')) := by
          rw [pLev]
          unfold isT
          rw [t0]
          exact p2
        have p4 := up .conj .neg _ 1003 ch_and (by decide) p3
        have p5 := up .xor .conj _ 1004 ch_xor (by decide) p4
        have p6 := up .expr .xor _ 1005 ch_or (by decide) p5
        have p6' : pLev L' (1000 + 7) .expr 0 (-1) = some (.ok (x', l.length + 2, late')) := p6
        simp only [p6']
        unfold endP
        rw [t2]
        have hl2 : ¬ 0 ≤ late' := by
          have := hl'.1 (by omega)
          omega
        rw [if_neg (fun q => q rfl), if_neg hl2, if_pos hv]
      · injection hF with _ hF; injection hF with _ hF; exact absurd hF (by decide)
end Go.Proofs.YtmbmngnnfkdngaaDoor
