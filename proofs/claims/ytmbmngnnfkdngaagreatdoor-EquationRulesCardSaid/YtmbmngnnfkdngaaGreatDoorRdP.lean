/-
  The reference's reader in plain words, and that it reads what the parser reads: the same expression, or an error at the same place. No program is named here.
-/
import Derived.Test.YtmbmngnnfkdngaaGreatDoorTokP
namespace Go.Proofs.YtmbmngnnfkdngaaGreatDoor

/-- The reader's state: its place, whether a token did not fit, the first late delay. -/
structure RSt where
  i : Nat
  bad : Bool
  la : Int
def hitR (l : List Tok) (s : RSt) (w : List UInt8) : Bool := !s.bad && (decide (s.i < l.length) && (decide ((tk l s.i).kind ≠ 2) && (tk l s.i).text == w))
def stepR (s : RSt) : RSt := ⟨s.i + 1, s.bad, s.la⟩
def failR (s : RSt) : RSt := ⟨s.i, true, s.la⟩
def needR (l : List Tok) (w : List UInt8) (s : RSt) : RSt := if hitR l s w then stepR s else failR s
/-- A part's outcome handed on. -/
def thenR {α β : Type} (r : Option (α × RSt)) (f : α → RSt → Option (β × RSt)) : Option (β × RSt) := match r with
  | none => none
  | some (x, s) => f x s
/-- The first of some words that stands at the place. -/
def wordR (l : List Tok) (s : RSt) : List (List UInt8) → Option (List UInt8)
  | [] => none
  | w :: ws => if hitR l s w then some w else wordR l s ws
def rMore (l : List Tok) (e : RSt → Option (Ex × RSt)) (ops : List (List UInt8)) : Nat → Ex → RSt → Option (Ex × RSt)
  | 0, _, _ => none
  | g + 1, x, s => if s.bad then some (x, s) else match wordR l s ops with
    | none => some (x, s)
    | some w => thenR (e (stepR s)) fun y s2 => rMore l e ops g (.mk (operationP w) 0 [] [x, y]) s2
def rChain (l : List Tok) (e : RSt → Option (Ex × RSt)) (ops : List (List UInt8)) (g : Nat) (s : RSt) : Option (Ex × RSt) := thenR (e s) fun x s2 => rMore l e ops g x s2
def rArgs (l : List Tok) (e : RSt → Option (Ex × RSt)) : Nat → List Ex → RSt → Option (List Ex × RSt)
  | 0, acc, s => some (acc, s)
  | k + 1, acc, s => thenR (e (if acc.isEmpty then s else needR l [44] s)) fun y s2 => rArgs l e k (acc ++ [y]) s2
def rNum (l : List Tok) (op : Int) (ks : List Ex) (s : RSt) : Ex × RSt :=
  if s.bad = true ∨ l.length ≤ s.i ∨ (tk l s.i).kind ≠ 2 then (.mk op 0 [] ks, failR s)
  else (.mk op (decV (tk l s.i).text) [] ks, needR l [41] ⟨s.i + 1, s.bad, if 500 < (decV (tk l s.i).text : Int) ∧ s.la < 0 then (tk l s.i).pos else s.la⟩)
def rRest (l : List Tok) (op : Int) (ks : List Ex) (s : RSt) : Ex × RSt :=
  if timedB op then rNum l op ks (needR l [44] s) else (.mk op 0 [] ks, needR l [41] s)
def rCall (l : List Tok) (e : RSt → Option (Ex × RSt)) (op : Int) (s : RSt) : Option (Ex × RSt) :=
  thenR (rArgs l e (arityP op).toNat [] (needR l [40] s)) fun ks s2 => some (rRest l op ks s2)
def rPrim (l : List Tok) (e : RSt → Option (Ex × RSt)) (s : RSt) : Option (Ex × RSt) :=
  if s.bad = true ∨ l.length ≤ s.i then some (.zero, failR s)
  else if (tk l s.i).kind = 2 then some (.mk 2 (decV (tk l s.i).text) [] [], stepR s)
  else if hitR l s [116, 114, 117, 101] then some (.mk 1 1 [] [], stepR s)
  else if hitR l s [102, 97, 108, 115, 101] then some (.mk 1 0 [] [], stepR s)
  else if hitR l s [40] then thenR (e (stepR s)) fun x s2 => some (x, needR l [41] s2)
  else if (tk l s.i).kind = 1 ∧ reservedB (tk l s.i).text = false then some (.mk 3 0 (tk l s.i).text [], stepR s)
  else if (tk l s.i).kind = 1 ∧ callWords.contains (tk l s.i).text = true then rCall l e (operationP (tk l s.i).text) (stepR s)
  else some (.zero, failR s)
/-- The reader's levels, f rounds deep. -/
def rLev (l : List Tok) : Nat → Lv → RSt → Option (Ex × RSt)
  | 0, _, _ => none
  | f + 1, .expr, s => rChain l (rLev l f .xor) [[111, 114]] f s
  | f + 1, .xor, s => rChain l (rLev l f .conj) [[120, 111, 114]] f s
  | f + 1, .conj, s => rChain l (rLev l f .neg) [[97, 110, 100]] f s
  | f + 1, .neg, s => if hitR l s [110, 111, 116] then thenR (rLev l f .neg (stepR s)) fun x s2 => some (.mk 4 0 [] [x], s2) else rLev l f .rel s
  | f + 1, .rel, s => thenR (rLev l f .sum s) fun x s2 => match wordR l s2 [[60], [62], [61]] with
    | none => some (x, s2)
    | some w => thenR (rLev l f .sum (stepR s2)) fun y s3 => some (.mk (operationP w) 0 [] [x, y], s3)
  | f + 1, .sum, s => rChain l (rLev l f .prim) [[43], [45]] f s
  | f + 1, .prim, s => rPrim l (rLev l f .expr) s

theorem rLev_neg (l : List Tok) (f : Nat) (s : RSt) : rLev l (f + 1) .neg s = if hitR l s [110, 111, 116] then thenR (rLev l f .neg (stepR s)) fun x s2 => some (.mk 4 0 [] [x], s2) else rLev l f .rel s := rfl
theorem rLev_rel (l : List Tok) (f : Nat) (s : RSt) : rLev l (f + 1) .rel s = thenR (rLev l f .sum s) fun x s2 => match wordR l s2 [[60], [62], [61]] with
    | none => some (x, s2)
    | some w => thenR (rLev l f .sum (stepR s2)) fun y s3 => some (.mk (operationP w) 0 [] [x, y], s3) := rfl
theorem end_kind (t : List UInt8) : (endTok t).kind = 0 := rfl
theorem end_text (t : List UInt8) : (endTok t).text = [] := rfl
/-! At a token that did not fit the reader stands still. -/
theorem hit_bad (l : List Tok) (i : Nat) (la : Int) (w : List UInt8) : hitR l ⟨i, true, la⟩ w = false := rfl
theorem need_bad (l : List Tok) (i : Nat) (la : Int) (w : List UInt8) : needR l w ⟨i, true, la⟩ = ⟨i, true, la⟩ := rfl
theorem word_bad (l : List Tok) (i : Nat) (la : Int) (ops : List (List UInt8)) : wordR l ⟨i, true, la⟩ ops = none := by
  induction ops with
  | nil => rfl
  | cons w ws ih => unfold wordR; rw [hit_bad, if_neg (by decide)]; exact ih
def BadK (e : RSt → Option (Ex × RSt)) : Prop := ∀ i la, ∃ y, e ⟨i, true, la⟩ = some (y, ⟨i, true, la⟩)
theorem rMore_bad (l : List Tok) (e : RSt → Option (Ex × RSt)) (ops : List (List UInt8)) {g : Nat} (hg : 0 < g) (x : Ex) (i : Nat) (la : Int) : rMore l e ops g x ⟨i, true, la⟩ = some (x, ⟨i, true, la⟩) := by
  obtain ⟨g, rfl⟩ : ∃ k, g = k + 1 := ⟨g - 1, by omega⟩
  rfl
theorem rChain_bad {l : List Tok} {e : RSt → Option (Ex × RSt)} (he : BadK e) (ops : List (List UInt8)) {g : Nat} (hg : 0 < g) : BadK (rChain l e ops g) := by
  intro i la
  obtain ⟨y, hy⟩ := he i la
  refine ⟨y, ?_⟩
  unfold rChain
  rw [hy]
  exact rMore_bad l e ops hg y i la
theorem rArgs_bad {l : List Tok} {e : RSt → Option (Ex × RSt)} (he : BadK e) : ∀ k acc i la, ∃ ks, rArgs l e k acc ⟨i, true, la⟩ = some (ks, ⟨i, true, la⟩)
  | 0, acc, _, _ => ⟨acc, rfl⟩
  | k + 1, acc, i, la => by
    obtain ⟨y, hy⟩ := he i la
    obtain ⟨ks, hk⟩ := rArgs_bad he k (acc ++ [y]) i la
    refine ⟨ks, ?_⟩
    unfold rArgs
    rw [need_bad, ite_self, hy]
    exact hk
theorem rRest_bad (l : List Tok) (op : Int) (ks : List Ex) (i : Nat) (la : Int) : ∃ y, rRest l op ks ⟨i, true, la⟩ = (y, ⟨i, true, la⟩) := by
  unfold rRest
  split
  · exact ⟨.mk op 0 [] ks, by rw [need_bad]; unfold rNum; rw [if_pos (.inl rfl)]; rfl⟩
  · exact ⟨.mk op 0 [] ks, rfl⟩
theorem rLev_bad (l : List Tok) : ∀ f lv, rankL lv ≤ f → BadK (rLev l f lv)
  | 0, lv, h => by cases lv <;> simp [rankL] at h
  | f + 1, lv, h => by
    have ih := fun lv => rLev_bad l f lv
    cases lv <;> simp only [rankL] at h ih
    · exact rChain_bad (ih .xor (by simp only []; omega)) _ (by omega)
    · exact rChain_bad (ih .conj (by simp only []; omega)) _ (by omega)
    · exact rChain_bad (ih .neg (by simp only []; omega)) _ (by omega)
    · exact ih .rel (by simp only []; omega)
    · intro i la
      obtain ⟨y, hy⟩ := ih .sum (by simp only []; omega) i la
      refine ⟨y, ?_⟩
      simp only [rLev]
      rw [hy]
      simp only [thenR]
      rw [word_bad]
    · exact rChain_bad (ih .prim (by simp only []; omega)) _ (by omega)
    · intro i la
      exact ⟨.zero, rfl⟩

/-! At a good place the reader reads what the parser reads. -/
theorem hit_eq {t : List UInt8} {l : List Tok} (hl : ∀ k ∈ l, TokW t k) {i : Nat} (la : Int) (w : List UInt8) (hw : w.all digitB = false) : hitR l ⟨i, false, la⟩ w = isT (l ++ [endTok t]) i w := by
  have hne : w ≠ [] := by intro q; subst q; simp at hw
  unfold hitR isT
  rcases tk_of (l := l) (e := endTok t) i with ⟨k, hk, hk2, hlt⟩ | ⟨h1, h2⟩ | ⟨h1, h2⟩
  · have e1 : tk l i = k := by unfold tk; rw [List.getD_eq_getElem?_getD, hk]; rfl
    rw [hk2, e1]
    simp only [Bool.not_false, Bool.true_and, hlt, decide_true]
    by_cases h2 : k.kind = 2
    · have := ((hl k (List.mem_of_getElem? hk)).num h2).1
      have hx : (k.text == w) = false := by
        rw [beq_eq_false_iff_ne]
        intro q
        rw [q, hw] at this
        cases this
      rw [hx, Bool.and_false]
    · simp [h2]
  · subst h1
    rw [h2]
    simp only [Nat.lt_irrefl, decide_false, Bool.false_and, Bool.and_false]
    symm
    rw [beq_eq_false_iff_ne]
    exact fun q => hne q.symm
  · rw [h2]
    simp only [show ¬ i < l.length by omega, decide_false, Bool.false_and, Bool.and_false]
    symm
    rw [beq_eq_false_iff_ne]
    exact fun q => hne q.symm
theorem word_eq {t : List UInt8} {l : List Tok} (hl : ∀ k ∈ l, TokW t k) {i : Nat} (la : Int) : ∀ (ops : List (List UInt8)), (∀ w ∈ ops, w.all digitB = false) → wordR l ⟨i, false, la⟩ ops = if ops.contains (tk (l ++ [endTok t]) i).text then some (tk (l ++ [endTok t]) i).text else none
  | [], _ => rfl
  | w :: ws, h => by
    have ih := word_eq hl (i := i) la ws (fun x hx => h x (List.mem_cons_of_mem _ hx))
    unfold wordR
    rw [hit_eq hl la w (h w (List.mem_cons_self ..)), ih]
    unfold isT
    rw [List.contains_cons]
    cases hq : ((tk (l ++ [endTok t]) i).text == w) with
    | true => simp [eq_of_beq hq]
    | false => simp
def OutR {α : Type} (L : List Tok) (N : Nat) (r : Except (Int × Int) (α × Nat × Int)) (y : α) (s : RSt) : Prop := match r with
  | .error (a, _) => s.bad = true ∧ (tk L s.i).pos = a ∧ s.i ≤ N
  | .ok (x, j, la) => y = x ∧ s = ⟨j, false, la⟩ ∧ j ≤ N
def GoodR {α : Type} (L : List Tok) (N : Nat) (p : Nat → Int → Res α) (e : RSt → Option (α × RSt)) : Prop := ∀ i la r, i ≤ N → p i la = some r → ∃ y s, e ⟨i, false, la⟩ = some (y, s) ∧ OutR L N r y s
/-- An error stays what it is. -/
theorem bad_of {s : RSt} (h : s.bad = true) : s = ⟨s.i, true, s.la⟩ := by obtain ⟨i, b, la⟩ := s; cases h; rfl
section
variable {t : List UInt8} {l : List Tok}
theorem take_of (hl : ∀ k ∈ l, TokW t k) {i : Nat} (h : (tk (l ++ [endTok t]) i).text ≠ []) : takeI (l ++ [endTok t]) i = i + 1 ∧ i + 1 ≤ l.length := by
  have h2 := (ends_of hl).take h
  simp at h2
  omega
theorem take_kind (hl : ∀ k ∈ l, TokW t k) {i : Nat} (h : (tk (l ++ [endTok t]) i).kind ≠ 0) : takeI (l ++ [endTok t]) i = i + 1 ∧ i + 1 ≤ l.length := by
  have h2 := kind_take (ends_of hl) h
  simp at h2
  omega
theorem take_is (hl : ∀ k ∈ l, TokW t k) {i : Nat} {w : List UInt8} (hw : w.all digitB = false) (h : isT (l ++ [endTok t]) i w = true) : takeI (l ++ [endTok t]) i = i + 1 ∧ i + 1 ≤ l.length :=
  take_of hl fun q => by
    unfold isT at h
    rw [q] at h
    rw [← eq_of_beq h] at hw
    simp at hw
/-- A symbol that is wanted. -/
theorem need_good (hl : ∀ k ∈ l, TokW t k) {i : Nat} {la : Int} {w : List UInt8} (hw : w.all digitB = false) (hi : i ≤ l.length) {α : Type} {f : Nat → Res α} {r : Except (Int × Int) (α × Nat × Int)} (h : needP (l ++ [endTok t]) w i f = some r) :
    (needR l w ⟨i, false, la⟩ = ⟨i + 1, false, la⟩ ∧ i + 1 ≤ l.length ∧ f (i + 1) = some r) ∨ (needR l w ⟨i, false, la⟩ = ⟨i, true, la⟩ ∧ ∀ y : α, OutR (l ++ [endTok t]) l.length r y ⟨i, true, la⟩) := by
  unfold needP at h
  unfold needR
  rw [hit_eq hl la w hw]
  split at h
  · rename_i hq
    obtain ⟨h1, h2⟩ := take_is hl hw hq
    rw [h1] at h
    exact .inl ⟨if_pos hq, h2, h⟩
  · rename_i hq
    refine .inr ⟨if_neg hq, fun y => ?_⟩
    obtain rfl : Except.error ((tk (l ++ [endTok t]) i).pos, 6) = r := by injection h
    exact ⟨rfl, rfl, hi⟩
theorem rMore_good (hl : ∀ k ∈ l, TokW t k) {p : Nat → Int → Res Ex} {e : RSt → Option (Ex × RSt)} (he : GoodR (l ++ [endTok t]) l.length p e) (ops : List (List UInt8)) (ho : ∀ w ∈ ops, w.all digitB = false) :
    ∀ g x i la r, i ≤ l.length → pMore (l ++ [endTok t]) p ops g x i la = some r → ∃ y s, rMore l e ops (g + 8) x ⟨i, false, la⟩ = some (y, s) ∧ OutR (l ++ [endTok t]) l.length r y s
  | 0, _, _, _, _, _, h => by cases h
  | g + 1, x, i, la, r, hi, h => by
    unfold pMore at h
    rw [show g + 1 + 8 = (g + 8) + 1 by omega]
    unfold rMore
    rw [if_neg Bool.false_ne_true, word_eq hl la ops ho]
    split at h
    · rename_i hc
      rw [if_pos hc]
      obtain ⟨h1, h2⟩ := take_of hl (i := i) (fun q => by
        rw [q, List.contains_iff_mem] at hc
        exact absurd (ho _ hc) (by decide))
      rw [h1] at h
      show ∃ y s, thenR (e ⟨i + 1, false, la⟩) _ = some (y, s) ∧ _
      unfold Res.go at h
      split at h
      · cases h
      · rename_i q hq
        obtain rfl : Except.error q = r := by injection h
        obtain ⟨y, s, hy, ho'⟩ := he _ _ _ h2 hq
        rw [hy]
        obtain ⟨a, er⟩ := q
        obtain ⟨si, sb, sl⟩ := s
        obtain rfl : sb = true := ho'.1
        exact ⟨_, _, rMore_bad l e ops (by omega) _ _ _, ho'⟩
      · rename_i y j lb hq
        obtain ⟨y', s, hy, rfl, rfl, hj⟩ := he _ _ _ h2 hq
        rw [hy]
        exact rMore_good hl he ops ho g _ _ _ _ hj h
    · rename_i hc
      rw [if_neg hc]
      obtain rfl : Except.ok (x, i, la) = r := by injection h
      exact ⟨x, _, rfl, rfl, rfl, hi⟩
theorem rChain_good (hl : ∀ k ∈ l, TokW t k) {p : Nat → Int → Res Ex} {e : RSt → Option (Ex × RSt)} (he : GoodR (l ++ [endTok t]) l.length p e) (ops : List (List UInt8)) (ho : ∀ w ∈ ops, w.all digitB = false) (g : Nat) :
    GoodR (l ++ [endTok t]) l.length (pChain (l ++ [endTok t]) p ops g) (rChain l e ops (g + 8)) := by
  intro i la r hi h
  unfold pChain Res.go at h
  unfold rChain
  split at h
  · cases h
  · rename_i q hq
    obtain rfl : Except.error q = r := by injection h
    obtain ⟨y, s, hy, ho'⟩ := he _ _ _ hi hq
    rw [hy]
    obtain ⟨a, er⟩ := q
    obtain ⟨si, sb, sl⟩ := s
    obtain rfl : sb = true := ho'.1
    exact ⟨_, _, rMore_bad l e ops (by omega) _ _ _, ho'⟩
  · rename_i y j lb hq
    obtain ⟨y', s, hy, rfl, rfl, hj⟩ := he _ _ _ hi hq
    rw [hy]
    exact rMore_good hl he ops ho g _ _ _ _ hj h
theorem rArgs_good (hl : ∀ k ∈ l, TokW t k) {p : Nat → Int → Res Ex} {e : RSt → Option (Ex × RSt)} (he : GoodR (l ++ [endTok t]) l.length p e) (hb : BadK e) :
    ∀ k acc, GoodR (l ++ [endTok t]) l.length (pArgs (l ++ [endTok t]) p k acc) (rArgs l e k acc)
  | 0, acc, i, la, r, hi, h => by
    obtain rfl : Except.ok (acc, i, la) = r := by injection h
    exact ⟨acc, _, rfl, rfl, rfl, hi⟩
  | k + 1, acc, i, la, r, hi, h => by
    have key : ∀ i', i' ≤ l.length → (p i' la).go (fun y j la => pArgs (l ++ [endTok t]) p k (acc ++ [y]) j la) = some r → ∃ y s, thenR (e ⟨i', false, la⟩) (fun y s2 => rArgs l e k (acc ++ [y]) s2) = some (y, s) ∧ OutR (l ++ [endTok t]) l.length r y s := by
      intro i' hi' h
      unfold Res.go at h
      split at h
      · cases h
      · rename_i q hq
        obtain rfl : Except.error q = r := by injection h
        obtain ⟨y, s, hy, ho'⟩ := he _ _ _ hi' hq
        rw [hy]
        obtain ⟨a, er⟩ := q
        obtain ⟨si, sb, sl⟩ := s
        obtain rfl : sb = true := ho'.1
        obtain ⟨ks, hk⟩ := rArgs_bad hb k (acc ++ [y]) si sl
        exact ⟨ks, _, hk, ho'⟩
      · rename_i y j lb hq
        obtain ⟨y', s, hy, rfl, rfl, hj⟩ := he _ _ _ hi' hq
        rw [hy]
        exact rArgs_good hl he hb k _ _ _ _ hj h
    unfold pArgs at h
    unfold rArgs
    split at h
    · rename_i hq
      rw [if_pos hq]
      exact key i hi h
    · rename_i hq
      rw [if_neg hq]
      rcases need_good hl (la := la) (by decide) hi h with ⟨h1, h2, h3⟩ | ⟨h1, h2⟩
      · rw [h1]
        exact key _ h2 h3
      · rw [h1]
        obtain ⟨y, hy⟩ := hb i la
        rw [hy]
        obtain ⟨ks, hk⟩ := rArgs_bad hb k (acc ++ [y]) i la
        exact ⟨ks, _, hk, h2 ks⟩
theorem rNum_good (hl : ∀ k ∈ l, TokW t k) (op : Int) (ks : List Ex) (i : Nat) (la : Int) (r : Except (Int × Int) (Ex × Nat × Int)) (hi : i ≤ l.length)
    (h : (if (tk (l ++ [endTok t]) i).kind = 2 then pLast (l ++ [endTok t]) op (tk (l ++ [endTok t]) i).n ks (takeI (l ++ [endTok t]) i) (if 500 < (tk (l ++ [endTok t]) i).n ∧ la < 0 then (tk (l ++ [endTok t]) i).pos else la) else stopT (l ++ [endTok t]) i) = some r) :
    ∃ y s, rNum l op ks ⟨i, false, la⟩ = (y, s) ∧ OutR (l ++ [endTok t]) l.length r y s := by
  unfold rNum
  rcases tk_of (l := l) (e := endTok t) i with ⟨k, hk, hk2, hlt⟩ | ⟨h1, h2⟩ | ⟨h1, h2⟩
  · have e1 : tk l i = k := by unfold tk; rw [List.getD_eq_getElem?_getD, hk]; rfl
    by_cases h2 : k.kind = 2
    · obtain ⟨t1, t2⟩ := take_kind hl (i := i) (by rw [hk2, h2]; decide)
      rw [hk2, if_pos h2, t1] at h
      have hn := ((hl k (List.mem_of_getElem? hk)).num h2).2.1
      rw [hn] at h
      rw [if_neg (by simp only [e1]; rintro (q | q | q); exact absurd q (by decide); omega; exact q h2)]
      simp only [e1]
      rcases need_good hl (la := if 500 < (decV k.text : Int) ∧ la < 0 then k.pos else la) (by decide) t2 h with ⟨a1, a2, a3⟩ | ⟨a1, a2⟩
      · rw [a1]
        obtain rfl := by injection a3
        exact ⟨_, _, rfl, rfl, rfl, a2⟩
      · rw [a1]
        exact ⟨_, _, rfl, a2 _⟩
    · rw [hk2, if_neg h2] at h
      obtain rfl : Except.error ((tk (l ++ [endTok t]) i).pos, 6) = r := by injection h
      rw [if_pos (.inr (.inr (by rw [e1]; exact h2)))]
      exact ⟨_, _, rfl, rfl, rfl, hi⟩
  · rw [h2, end_kind, if_neg (by decide)] at h
    obtain rfl : Except.error ((tk (l ++ [endTok t]) i).pos, 6) = r := by injection h
    rw [if_pos (.inr (.inl (show l.length ≤ i by omega)))]
    exact ⟨_, _, rfl, rfl, rfl, hi⟩
  · omega
theorem rCall_good (hl : ∀ k ∈ l, TokW t k) {p : Nat → Int → Res Ex} {e : RSt → Option (Ex × RSt)} (he : GoodR (l ++ [endTok t]) l.length p e) (hb : BadK e) (op : Int) :
    GoodR (l ++ [endTok t]) l.length (pCall (l ++ [endTok t]) p op) (rCall l e op) := by
  intro i la r hi h
  unfold pCall at h
  unfold rCall
  rcases need_good hl (la := la) (by decide) hi h with ⟨h1, h2, h3⟩ | ⟨h1, h2⟩
  · rw [h1]
    unfold Res.go at h3
    split at h3
    · cases h3
    · rename_i q hq
      obtain rfl : Except.error q = r := by injection h3
      obtain ⟨ks, s, hy, ho'⟩ := rArgs_good hl he hb _ _ _ _ _ h2 hq
      rw [hy]
      obtain ⟨a, er⟩ := q
      obtain ⟨si, sb, sl⟩ := s
      obtain rfl : sb = true := ho'.1
      obtain ⟨y, hy2⟩ := rRest_bad l op ks si sl
      exact ⟨y, _, by show some (rRest l op ks _) = _; rw [hy2], ho'⟩
    · rename_i ks j lb hq
      obtain ⟨ks', s, hy, rfl, rfl, hj⟩ := rArgs_good hl he hb _ _ _ _ _ h2 hq
      rw [hy]
      simp only [thenR]
      unfold rRest
      split at h3
      · rename_i ht
        rw [if_pos ht]
        rcases need_good hl (la := lb) (by decide) hj h3 with ⟨a1, a2, a3⟩ | ⟨a1, a2⟩
        · rw [a1]
          obtain ⟨y, s, e1, e2⟩ := rNum_good hl op ks' _ _ _ a2 a3
          exact ⟨y, s, by rw [e1], e2⟩
        · rw [a1]
          exact ⟨_, _, rfl, a2 _⟩
      · rename_i ht
        rw [if_neg ht]
        rcases need_good hl (la := lb) (by decide) hj h3 with ⟨a1, a2, a3⟩ | ⟨a1, a2⟩
        · rw [a1]
          obtain rfl := by injection a3
          exact ⟨_, _, rfl, rfl, rfl, a2⟩
        · rw [a1]
          exact ⟨_, _, rfl, a2 _⟩
  · rw [h1]
    obtain ⟨ks, hk⟩ := rArgs_bad hb (arityP op).toNat [] i la
    rw [hk]
    obtain ⟨y, hy2⟩ := rRest_bad l op ks i la
    exact ⟨y, _, by show some (rRest l op ks _) = _; rw [hy2], h2 y⟩
theorem call_res {s : List UInt8} (h : callWords.contains s = true) : reservedB s = true ∧ s.all digitB = false := by
  rw [List.contains_iff_mem] at h
  unfold callWords at h
  simp only [List.mem_cons, List.not_mem_nil, or_false] at h
  rcases h with rfl | rfl | rfl | rfl | rfl | rfl | rfl | rfl | rfl | rfl <;> exact ⟨by decide, by decide⟩
theorem rPrim_good (hl : ∀ k ∈ l, TokW t k) {p : Nat → Int → Res Ex} {e : RSt → Option (Ex × RSt)} (he : GoodR (l ++ [endTok t]) l.length p e) (hb : BadK e) :
    GoodR (l ++ [endTok t]) l.length (pPrim (l ++ [endTok t]) p) (rPrim l e) := by
  intro i la r hi h
  unfold pPrim at h
  unfold rPrim
  simp only [hit_eq hl la [116, 114, 117, 101] (by decide), hit_eq hl la [102, 97, 108, 115, 101] (by decide), hit_eq hl la [40] (by decide)]
  rcases tk_of (l := l) (e := endTok t) i with ⟨k, hk, hk2, hlt⟩ | ⟨h1, h2⟩ | ⟨h1, h2⟩
  case inr.inl =>
    rw [if_pos (.inr (by show l.length ≤ i; omega))]
    rw [if_neg (by unfold isT; rw [h2, end_text]; decide), if_neg (by unfold isT; rw [h2, end_text]; decide), if_neg (by unfold isT; rw [h2, end_text]; decide), h2, end_text, end_kind, if_neg (by decide), if_neg (by decide), if_neg (by rintro ⟨q, -⟩; exact absurd q (by decide))] at h
    obtain rfl : Except.error ((tk (l ++ [endTok t]) i).pos, 6) = r := by injection h
    exact ⟨_, _, rfl, rfl, rfl, hi⟩
  case inr.inr => omega
  have e1 : tk l i = k := by unfold tk; rw [List.getD_eq_getElem?_getD, hk]; rfl
  have hw := hl k (List.mem_of_getElem? hk)
  rw [if_neg (by rintro (q | q); exact absurd q (by decide); exact absurd q (by show ¬ l.length ≤ i; omega))]
  simp only [e1]
  have hd : k.kind = 2 → ∀ w : List UInt8, w.all digitB = false → isT (l ++ [endTok t]) i w = false := by
    intro h2 w hw2
    unfold isT
    rw [hk2, beq_eq_false_iff_ne]
    intro q
    have := (hw.num h2).1
    rw [q, hw2] at this
    cases this
  by_cases h2 : k.kind = 2
  · rw [if_neg (by rw [hd h2 _ (by decide)]; decide), if_neg (by rw [hd h2 _ (by decide)]; decide), if_neg (by rw [hd h2 _ (by decide)]; decide), hk2, if_neg (fun q => by have := (call_res q).2; rw [(hw.num h2).1] at this; cases this), if_pos h2] at h
    rw [if_pos h2]
    obtain ⟨t1, t2⟩ := take_kind hl (i := i) (by rw [hk2, h2]; decide)
    rw [t1, (hw.num h2).2.1] at h
    obtain rfl := by injection h
    exact ⟨_, _, rfl, rfl, rfl, t2⟩
  rw [if_neg h2]
  by_cases q1 : isT (l ++ [endTok t]) i [40] = true
  · have n1 : isT (l ++ [endTok t]) i [116, 114, 117, 101] = false := by unfold isT at q1 ⊢; rw [eq_of_beq q1]; decide
    have n2 : isT (l ++ [endTok t]) i [102, 97, 108, 115, 101] = false := by unfold isT at q1 ⊢; rw [eq_of_beq q1]; decide
    rw [if_pos q1] at h
    rw [if_neg (by rw [n1]; decide), if_neg (by rw [n2]; decide), if_pos q1]
    obtain ⟨t1, t2⟩ := take_is hl (by decide) q1
    rw [t1] at h
    show ∃ y s, thenR (e ⟨i + 1, false, la⟩) _ = some (y, s) ∧ _
    unfold Res.go at h
    split at h
    · cases h
    · rename_i q hq
      obtain rfl : Except.error q = r := by injection h
      obtain ⟨y, s, hy, ho'⟩ := he _ _ _ t2 hq
      rw [hy]
      obtain ⟨a, er⟩ := q
      obtain ⟨si, sb, sl⟩ := s
      obtain rfl : sb = true := ho'.1
      exact ⟨_, _, rfl, ho'⟩
    · rename_i y j lb hq
      obtain ⟨y', s, hy, rfl, rfl, hj⟩ := he _ _ _ t2 hq
      rw [hy]
      simp only [thenR]
      rcases need_good hl (la := lb) (by decide) hj h with ⟨a1, a2, a3⟩ | ⟨a1, a2⟩
      · rw [a1]
        obtain rfl := by injection a3
        exact ⟨_, _, rfl, rfl, rfl, a2⟩
      · rw [a1]
        exact ⟨_, _, rfl, a2 _⟩
  rw [if_neg q1] at h
  by_cases q2 : isT (l ++ [endTok t]) i [116, 114, 117, 101] = true
  · rw [if_pos q2] at h
    rw [if_pos q2]
    obtain ⟨t1, t2⟩ := take_is hl (by decide) q2
    rw [t1] at h
    obtain rfl := by injection h
    exact ⟨_, _, rfl, rfl, rfl, t2⟩
  rw [if_neg q2] at h
  rw [if_neg q2]
  by_cases q3 : isT (l ++ [endTok t]) i [102, 97, 108, 115, 101] = true
  · rw [if_pos q3] at h
    rw [if_pos q3]
    obtain ⟨t1, t2⟩ := take_is hl (by decide) q3
    rw [t1] at h
    obtain rfl := by injection h
    exact ⟨_, _, rfl, rfl, rfl, t2⟩
  rw [if_neg q3] at h
  rw [if_neg q3, if_neg q1]
  rw [hk2] at h
  obtain ⟨t1, t2⟩ := take_kind hl (i := i) (by rw [hk2]; rcases hw.kind with q | q | q <;> rw [q] <;> decide)
  rw [t1] at h
  by_cases q4 : callWords.contains k.text = true
  · have hr := (call_res q4).1
    rw [if_pos q4] at h
    rw [if_neg (by rintro ⟨-, q⟩; rw [hr] at q; cases q)]
    have hk1 : k.kind = 1 := by
      rcases hw.kind with q | q | q
      · exact q
      · exact absurd q h2
      · exfalso
        obtain ⟨c, hc, hs⟩ := (hw.sym q).1
        rw [hc] at q4
        rw [List.contains_iff_mem] at q4
        unfold callWords at q4
        simp only [List.mem_cons, List.not_mem_nil, List.cons.injEq, reduceCtorEq, and_false, or_self] at q4
    rw [if_pos ⟨hk1, q4⟩]
    exact rCall_good hl he hb _ _ _ _ t2 h
  rw [if_neg q4, if_neg h2] at h
  by_cases q5 : k.kind = 1 ∧ reservedB k.text = false
  · rw [if_pos q5] at h
    rw [if_pos q5]
    obtain rfl := by injection h
    exact ⟨_, _, rfl, rfl, rfl, t2⟩
  · rw [if_neg q5] at h
    rw [if_neg q5, if_neg (fun q => q4 q.2)]
    obtain rfl : Except.error ((tk (l ++ [endTok t]) i).pos, 6) = r := by injection h
    exact ⟨_, _, rfl, rfl, rfl, hi⟩
theorem rLev_good (hl : ∀ k ∈ l, TokW t k) : ∀ f lv, GoodR (l ++ [endTok t]) l.length (pLev (l ++ [endTok t]) f lv) (rLev l (f + 8) lv)
  | 0, _ => fun _ _ _ _ h => by cases h
  | f + 1, lv => by
    have ih := fun lv => rLev_good hl f lv
    have hb := fun lv (h : rankL lv ≤ f + 8) => rLev_bad l (f + 8) lv h
    rw [show f + 1 + 8 = (f + 8) + 1 by omega]
    cases lv
    · exact rChain_good hl (ih .xor) _ (by decide) f
    · exact rChain_good hl (ih .conj) _ (by decide) f
    · exact rChain_good hl (ih .neg) _ (by decide) f
    · intro i la r hi h
      simp only [pLev] at h
      rw [rLev_neg]
      rw [hit_eq hl la [110, 111, 116] (by decide)]
      split at h
      · rename_i hq
        rw [if_pos hq]
        obtain ⟨t1, t2⟩ := take_is hl (by decide) hq
        rw [t1] at h
        show ∃ y s, thenR (rLev l (f + 8) .neg ⟨i + 1, false, la⟩) _ = some (y, s) ∧ _
        unfold Res.go at h
        split at h
        · cases h
        · rename_i q hq
          obtain rfl : Except.error q = r := by injection h
          obtain ⟨y, s, hy, ho'⟩ := ih .neg _ _ _ t2 hq
          rw [hy]
          exact ⟨_, _, rfl, ho'⟩
        · rename_i y j lb hq
          obtain ⟨y', s, hy, rfl, rfl, hj⟩ := ih .neg _ _ _ t2 hq
          rw [hy]
          obtain rfl := by injection h
          exact ⟨_, _, rfl, rfl, rfl, hj⟩
      · rename_i hq
        rw [if_neg hq]
        exact ih .rel _ _ _ hi h
    · intro i la r hi h
      simp only [pLev] at h
      rw [rLev_rel]
      unfold Res.go at h
      split at h
      · cases h
      · rename_i q hq
        obtain rfl : Except.error q = r := by injection h
        obtain ⟨y, s, hy, ho'⟩ := ih .sum _ _ _ hi hq
        rw [hy]
        obtain ⟨a, er⟩ := q
        obtain ⟨si, sb, sl⟩ := s
        obtain rfl : sb = true := ho'.1
        simp only [thenR]
        rw [word_bad]
        exact ⟨_, _, rfl, ho'⟩
      · rename_i y j lb hq
        obtain ⟨y', s, hy, rfl, rfl, hj⟩ := ih .sum _ _ _ hi hq
        rw [hy]
        simp only [thenR]
        rw [word_eq hl lb _ (by decide)]
        dsimp only at h
        split at h
        · rename_i hc
          rw [if_pos hc]
          obtain ⟨t1, t2⟩ := take_of hl (i := j) (fun q => by rw [q] at hc; exact absurd hc (by decide))
          rw [t1] at h
          show ∃ y s, thenR (rLev l (f + 8) .sum ⟨j + 1, false, lb⟩) _ = some (y, s) ∧ _
          split at h
          · cases h
          · rename_i q hq
            obtain rfl : Except.error q = r := by injection h
            obtain ⟨y2, s2, hy2, ho2⟩ := ih .sum _ _ _ t2 hq
            rw [hy2]
            exact ⟨_, _, rfl, ho2⟩
          · rename_i y2 j2 lb2 hq
            obtain ⟨y3, s2, hy2, rfl, rfl, hj2⟩ := ih .sum _ _ _ t2 hq
            rw [hy2]
            obtain rfl := by injection h
            exact ⟨_, _, rfl, rfl, rfl, hj2⟩
        · rename_i hc
          rw [if_neg hc]
          obtain rfl := by injection h
          exact ⟨_, _, rfl, rfl, rfl, hj⟩
    · exact rChain_good hl (ih .prim) _ (by decide) f
    · exact rPrim_good hl (ih .expr) (hb .expr (by simp [rankL])) 
end

/-- What the reference's Parse answers once the reader has come to an end. -/
def endR (t : List UInt8) (l : List Tok) (x : Ex) (s : RSt) : Ex × Int × Int :=
  if s.bad = true ∨ s.i < l.length then (if s.i < l.length then (.zero, (tk l s.i).pos, 6) else (.zero, t.length, 6))
  else if 0 ≤ s.la then (.zero, s.la, 2) else if validP x then (x, 0, 0) else (.zero, 0, 17)
/-- The reader comes to an end, and its answer is the parser's. -/
theorem parse_read {t : List UInt8} (ht : ¬ 120 < t.length) {l : List Tok} (hl : toksP t = .ok l) : ∃ y s, rLev l 1008 .expr ⟨0, false, -1⟩ = some (y, s) ∧ s.i ≤ l.length ∧ endR t l y s = parseP t := by
  obtain ⟨hw, hlen⟩ := toksP_ok hl
  have hp := parseP_eq t
  unfold parseF at hp
  rw [if_neg ht, hl] at hp
  simp only at hp
  cases hr : pLev (l ++ [endTok t]) 1000 .expr 0 (-1) with
  | none => rw [hr] at hp; cases hp
  | some r =>
    obtain ⟨y, s, hy, ho⟩ := rLev_good hw 1000 .expr 0 (-1) r (Nat.zero_le _) hr
    rw [hr] at hp
    refine ⟨y, s, hy, ?_⟩
    rcases r with ⟨a, er⟩ | ⟨x, j, la⟩
    · have h6 := pLev_err6 _ _ _ _ _ _ _ hr
      subst h6
      obtain ⟨h1, h2, h3⟩ := ho
      refine ⟨h3, ?_⟩
      injection hp with hp
      rw [← hp]
      unfold endR
      rw [if_pos (.inl h1)]
      rcases tk_of (l := l) (e := endTok t) s.i with ⟨k, hk, hk2, hlt⟩ | ⟨q1, q2⟩ | ⟨q1, q2⟩
      · rw [if_pos hlt, ← h2, hk2]
        have e1 : tk l s.i = k := by unfold tk; rw [List.getD_eq_getElem?_getD, hk]; rfl
        rw [e1]
      · rw [if_neg (by omega), ← h2, q2]; rfl
      · omega
    · obtain ⟨rfl, rfl, hj⟩ := ho
      refine ⟨hj, ?_⟩
      injection hp with hp
      rw [← hp]
      unfold endR endP
      simp only
      rcases tk_of (l := l) (e := endTok t) j with ⟨k, hk, hk2, hlt⟩ | ⟨q1, q2⟩ | ⟨q1, q2⟩
      · have e1 : tk l j = k := by unfold tk; rw [List.getD_eq_getElem?_getD, hk]; rfl
        have hne : k.kind ≠ 0 := by rcases (hw k (List.mem_of_getElem? hk)).kind with q | q | q <;> rw [q] <;> decide
        rw [if_pos (.inr hlt), if_pos hlt, hk2, if_pos hne, e1]
      · rw [if_neg (by rintro (q | q); cases q; omega), q2, end_kind, if_neg (c := (0 : Int) ≠ 0) (by decide)]
      · omega
end Go.Proofs.YtmbmngnnfkdngaaGreatDoor
