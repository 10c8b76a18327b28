/-
  The tokens of a text in plain words: what each of them is, how many there are. No program is named here.
-/
import Derived.Test.YtmbmngnnfkdngaaGreatDoorParP
namespace Go.Proofs.YtmbmngnnfkdngaaGreatDoor

/-- A token of a text. -/
structure TokW (t : List UInt8) (k : Tok) : Prop where
  kind : k.kind = 1 ∨ k.kind = 2 ∨ k.kind = 3
  text : k.text ≠ []
  pos : 0 ≤ k.pos ∧ k.pos < t.length
  word : k.kind = 1 → k.text.length ≤ 12 ∧ (∃ c r, k.text = c :: r ∧ letterB c = true ∧ r.all wordB = true) ∧ k.n = 0
  num : k.kind = 2 → k.text.all digitB = true ∧ k.n = decV k.text ∧ k.n ≤ 32767 ∧ (1 < k.text.length → k.text.head? ≠ some 48) ∧ k.text.length ≤ 5
  sym : k.kind = 3 → (∃ c, k.text = [c] ∧ symB c = true) ∧ k.n = 0
theorem runB_le (p : UInt8 → Bool) (t : List UInt8) (i : Nat) : i ≤ runB p t i ∧ (i ≤ t.length → runB p t i ≤ t.length) := by
  unfold runB
  have : ((t.drop i).takeWhile p).length ≤ (t.drop i).length := (List.takeWhile_prefix p).length_le
  rw [List.length_drop] at this
  omega
theorem cut_run (p : UInt8 → Bool) (t : List UInt8) (i : Nat) (c : UInt8) (h : t[i]? = some c) : cutB t i (runB p t (i + 1)) = c :: (t.drop (i + 1)).takeWhile p := by
  obtain ⟨hi, rfl⟩ := List.getElem?_eq_some_iff.1 h
  unfold cutB runB
  rw [List.drop_take]
  have e : i + 1 + ((t.drop (i + 1)).takeWhile p).length - i = ((t.drop (i + 1)).takeWhile p).length + 1 := by omega
  rw [e, List.drop_eq_getElem_cons hi, List.take_succ_cons]
  congr 1
  exact (List.prefix_iff_eq_take.1 (List.takeWhile_prefix p)).symm
theorem takeWhile_all (p : UInt8 → Bool) (l : List UInt8) : (l.takeWhile p).all p = true := by
  induction l with
  | nil => rfl
  | cons a l ih =>
    rw [List.takeWhile_cons]
    split
    · rename_i h; simp [h, ih]
    · rfl
theorem decV_cons (l : List UInt8) : ∀ a, l.foldl (fun a c => 10 * a + (c.toNat - 48)) a ≥ a * 10 ^ l.length := by
  induction l with
  | nil => intro a; simp
  | cons x l ih =>
    intro a
    have := ih (10 * a + (x.toNat - 48))
    simp only [List.foldl_cons, List.length_cons, Nat.pow_succ]
    have h2 : (10 * a + (x.toNat - 48)) * 10 ^ l.length ≥ 10 * a * 10 ^ l.length := Nat.mul_le_mul_right _ (by omega)
    have h3 : a * (10 ^ l.length * 10) = 10 * a * 10 ^ l.length := by rw [Nat.mul_comm (10 ^ l.length), ← Nat.mul_assoc, Nat.mul_comm a]
    omega
theorem decV_len {c : UInt8} {l : List UInt8} (hd : digitB c = true) (h0 : c ≠ 48) (h : decV (c :: l) ≤ 32767) : l.length ≤ 4 := by
  have hc : 1 ≤ c.toNat - 48 := by
    simp only [digitB, Bool.and_eq_true, decide_eq_true_eq] at hd
    have h1 : 48 ≤ c.toNat := hd.1
    have : c.toNat ≠ 48 := fun q => h0 (UInt8.toNat.inj q)
    omega
  have h1 : decV (c :: l) = l.foldl (fun a c => 10 * a + (c.toNat - 48)) (c.toNat - 48) := by simp [decV]
  have h2 := decV_cons l (c.toNat - 48)
  rw [h1] at h
  by_cases hl : l.length ≤ 4
  · exact hl
  · exfalso
    have h3 : (10 : Nat) ^ 5 ≤ 10 ^ l.length := Nat.pow_le_pow_right (by omega) (by omega)
    have h4 : 1 * 10 ^ l.length ≤ (c.toNat - 48) * 10 ^ l.length := Nat.mul_le_mul_right _ hc
    omega
/-- One round: a token is one of the text's; the next place lies behind. -/
theorem tokAt_ok {t : List UInt8} {i : Nat} {c : UInt8} (h : t[i]? = some c) {o : Option Tok} {j : Nat} (hk : tokAt t i c = .ok (o, j)) : i < j ∧ j ≤ t.length ∧ ∀ k, o = some k → TokW t k := by
  obtain ⟨hi, -⟩ := List.getElem?_eq_some_iff.1 h
  have hw := runB_le wordB t (i + 1)
  have hn := runB_le digitB t (i + 1)
  unfold tokAt at hk
  split at hk
  · cases hk; exact ⟨by omega, by omega, fun k q => by cases q⟩
  split at hk
  · rename_i hl
    split at hk
    · cases hk
    · rename_i hlen
      cases hk
      refine ⟨by omega, by omega, fun k q => ?_⟩
      cases q
      have hc := cut_run wordB t i c h
      have hcl : (cutB t i (runB wordB t (i + 1))).length = runB wordB t (i + 1) - i := by unfold cutB; rw [List.length_drop, List.length_take]; omega
      exact ⟨.inl rfl, by rw [hc]; exact List.cons_ne_nil _ _, ⟨by simp, by simpa using hi⟩, fun _ => ⟨by rw [hcl]; omega, ⟨c, _, hc, hl, takeWhile_all _ _⟩, rfl⟩, (fun q => by cases q), (fun q => by cases q)⟩
  split at hk
  · rename_i hd
    split at hk
    · cases hk
    · rename_i hv
      cases hk
      refine ⟨by omega, by omega, fun k q => ?_⟩
      cases q
      have hc := cut_run digitB t i c h
      refine ⟨.inr (.inl rfl), by rw [hc]; exact List.cons_ne_nil _ _, ⟨by simp, by simpa using hi⟩, (fun q => by cases q), fun _ => ⟨?_, rfl, ?_, ?_, ?_⟩, (fun q => by cases q)⟩
      · show (cutB t i (runB digitB t (i + 1))).all digitB = true
        rw [hc]; simp only [List.all_cons, hd, Bool.true_and]; exact takeWhile_all _ _
      · show ((decV (cutB t i (runB digitB t (i + 1))) : Nat) : Int) ≤ 32767
        omega
      · show 1 < (cutB t i (runB digitB t (i + 1))).length → (cutB t i (runB digitB t (i + 1))).head? ≠ some 48
        intro h1 h2
        rw [hc] at h2
        cases h2
        exact hv (.inr ⟨h1, rfl⟩)
      · show (cutB t i (runB digitB t (i + 1))).length ≤ 5
        rw [hc] at hv ⊢
        by_cases h0 : c = 48
        · have : ¬ 1 < (c :: (t.drop (i + 1)).takeWhile digitB).length := fun q => hv (.inr ⟨q, h0⟩)
          omega
        · have := decV_len hd h0 (Nat.le_of_not_lt fun q => hv (.inl q))
          simp only [List.length_cons]
          omega
  split at hk
  · rename_i hs
    cases hk
    exact ⟨by omega, by omega, fun k q => by cases q; exact ⟨.inr (.inr rfl), List.cons_ne_nil _ _, ⟨by simp, by simpa using hi⟩, (fun q => by cases q), (fun q => by cases q), fun _ => ⟨⟨c, rfl, hs⟩, rfl⟩⟩⟩
  · cases hk
theorem toksG_ok (t : List UInt8) : ∀ f i acc l, i ≤ t.length → toksG t f i acc = .ok l → (∀ k ∈ acc, TokW t k) → (∀ k ∈ l, TokW t k) ∧ l.length ≤ acc.length + (t.length - i)
  | 0, i, acc, l, _, h, ha => by cases h; exact ⟨ha, by omega⟩
  | f + 1, i, acc, l, hi, h, ha => by
    unfold toksG at h
    split at h
    · cases h; exact ⟨ha, by omega⟩
    · rename_i c hc
      split at h
      · cases h
      · rename_i j hk
        obtain ⟨h1, h2, -⟩ := tokAt_ok hc hk
        obtain ⟨a, b⟩ := toksG_ok t f j acc l h2 h ha
        exact ⟨a, by omega⟩
      · rename_i k j hk
        obtain ⟨h1, h2, h3⟩ := tokAt_ok hc hk
        obtain ⟨a, b⟩ := toksG_ok t f j (acc ++ [k]) l h2 h (fun q hq => by
          rcases List.mem_append.1 hq with h' | h'
          · exact ha q h'
          · cases List.mem_singleton.1 h'; exact h3 _ rfl)
        refine ⟨a, ?_⟩
        simp only [List.length_append, List.length_singleton] at b
        omega
theorem toksP_ok {t : List UInt8} {l : List Tok} (h : toksP t = .ok l) : (∀ k ∈ l, TokW t k) ∧ l.length ≤ t.length := by
  obtain ⟨a, b⟩ := toksG_ok t _ 0 [] l (Nat.zero_le _) h (fun k hk => by cases hk)
  exact ⟨a, by simpa using b⟩
theorem tk_of {l : List Tok} {e : Tok} (j : Nat) : (∃ k, l[j]? = some k ∧ tk (l ++ [e]) j = k ∧ j < l.length) ∨ (j = l.length ∧ tk (l ++ [e]) j = e) ∨ (l.length < j ∧ tk (l ++ [e]) j = ⟨0, [], 0, 0⟩) := by
  unfold tk
  rw [List.getD_eq_getElem?_getD]
  rcases Nat.lt_trichotomy j l.length with h | h | h
  · refine .inl ⟨l[j], List.getElem?_eq_getElem h, ?_, h⟩
    rw [List.getElem?_append_left h, List.getElem?_eq_getElem h]; rfl
  · subst h
    refine .inr (.inl ⟨rfl, ?_⟩)
    rw [List.getElem?_append_right (Nat.le_refl _)]; simp
  · refine .inr (.inr ⟨h, ?_⟩)
    rw [List.getElem?_eq_none (by simp; omega)]; rfl
theorem ends_of {t : List UInt8} {l : List Tok} (h : ∀ k ∈ l, TokW t k) : Ends (l ++ [endTok t]) := by
  refine ⟨fun j hj => ?_, fun j hj => ?_⟩
  · rcases tk_of (l := l) (e := endTok t) j with ⟨k, hk, hk2, _⟩ | ⟨_, hk⟩ | ⟨_, hk⟩
    · rw [hk2] at hj
      have := (h k (List.mem_of_getElem? hk)).kind
      omega
    · rw [hk]; rfl
    · rw [hk]
  · rcases tk_of (l := l) (e := endTok t) j with ⟨k, hk, hk2, hl⟩ | ⟨_, hk⟩ | ⟨_, hk⟩
    · simp; omega
    · rw [hk] at hj; exact absurd rfl hj
    · rw [hk] at hj; exact absurd rfl hj
/-- A text always has an answer. -/
theorem parseF_fin (t : List UInt8) : ∃ r, parseF 1000 t = some r := by
  unfold parseF
  split
  · exact ⟨_, rfl⟩
  · rename_i hl
    cases ht : toksP t with
    | error e => exact ⟨_, rfl⟩
    | ok l =>
      obtain ⟨hw, hlen⟩ := toksP_ok ht
      obtain ⟨v, hv⟩ := pLev_fin (ends_of hw) 1000 .expr 0 (-1) (by simp [rankL]; omega)
      simp only [hv]
      rcases v with ⟨a, e⟩ | ⟨x, i, late⟩
      · exact ⟨_, rfl⟩
      · exact ⟨_, rfl⟩
/-- Parse's answer. -/
def parseP (t : List UInt8) : Ex × Int × Int := (parseF 1000 t).getD (.zero, 0, 0)
theorem parseP_eq (t : List UInt8) : parseF 1000 t = some (parseP t) := by
  obtain ⟨r, hr⟩ := parseF_fin t
  unfold parseP
  rw [hr]; rfl
theorem parseP_of {f : Nat} (hf : f ≤ 1000) {t : List UInt8} {r : Ex × Int × Int} (h : parseF f t = some r) : parseP t = r := by
  have := parseF_mono hf h
  rw [parseP_eq] at this
  injection this
end Go.Proofs.YtmbmngnnfkdngaaGreatDoor
