/-
  The text of an expression in plain words, and that its tokens are known. No program is named here.
-/
import Derived.Test.YtmbmngnnfkdngaaGreatDoorTokP
import Derived.Lib.ItoaNum
namespace Go.Proofs.YtmbmngnnfkdngaaGreatDoor

def kid (ks : List Ex) (k : Nat) : Ex := ks.getD k .zero
def commaL : List (List UInt8) → List UInt8
  | [] => []
  | [a] => a
  | a :: b :: r => a ++ [44, 32] ++ commaL (b :: r)
/-- The text of an expression of at most d levels. -/
def fmtG : Nat → Ex → List UInt8
  | 0, _ => []
  | d + 1, .mk op n nm ks =>
    if op = 1 then (if n = 1 then [116, 114, 117, 101] else [102, 97, 108, 115, 101])
    else if op = 2 then Lib.itoa n
    else if op = 3 then nm
    else if op = 4 then [40, 110, 111, 116, 32] ++ fmtG d (kid ks 0) ++ [41]
    else if infixB op then [40] ++ fmtG d (kid ks 0) ++ ([32] ++ wordP op ++ [32]) ++ fmtG d (kid ks 1) ++ [41]
    else wordP op ++ [40] ++ commaL (ks.map (fmtG d)) ++ (if timedB op then [44, 32] ++ Lib.itoa n else []) ++ [41]
/-- Format's answer. -/
def fmtP (x : Ex) : List UInt8 := if validP x then fmtG 16 x else []
/-- Every node fits its operation; at most d levels. -/
def okG : Nat → Ex → Prop
  | 0, _ => False
  | d + 1, .mk op n nm ks => nodeB op n nm ks.length = true ∧ ∀ k ∈ ks, okG d k
theorem vL_mem {f : Nat → Ex → Option Nat} : ∀ {ks : List Ex} {left l : Nat}, vL f left ks = some l → ∀ k ∈ ks, ∃ a b, f a k = some b
  | [], _, _, _, k, hk => by cases hk
  | x :: ks, left, l, h, k, hk => by
    unfold vL at h
    split at h
    · cases h
    · rename_i m hm
      rcases List.mem_cons.1 hk with rfl | hk
      · exact ⟨_, _, hm⟩
      · exact vL_mem h k hk
theorem vG_ok : ∀ {d left l : Nat} {x : Ex}, vG d left x = some l → okG d x
  | 0, _, _, _, h => by cases h
  | d + 1, left, l, .mk op n nm ks, h => by
    unfold vG at h
    split at h
    · cases h
    · rename_i hn
      refine ⟨?_, fun k hk => ?_⟩
      · cases hb : nodeB op n nm ks.length
        · exact absurd (.inr hb) hn
        · rfl
      · obtain ⟨a, b, hab⟩ := vL_mem h k hk
        exact vG_ok hab
theorem valid_ok {x : Ex} (h : validP x = true) : okG 16 x := by
  unfold validP at h
  cases hv : vG 16 60 x with
  | none => rw [hv] at h; cases h
  | some l => exact vG_ok hv

theorem itoa_decP {n : Int} (h : 0 ≤ n) : Lib.itoa n = Lib.decDigits n.toNat := by unfold Lib.itoa; rw [if_neg (by omega)]
theorem decV_snoc (l : List UInt8) (c : UInt8) : decV (l ++ [c]) = 10 * decV l + (c.toNat - 48) := by simp [decV]
theorem digit_ofNat {u : Nat} (h : u < 10) : digitB (UInt8.ofNat (48 + u)) = true ∧ (UInt8.ofNat (48 + u)).toNat = 48 + u := by
  have e : (UInt8.ofNat (48 + u)).toNat = 48 + u := by rw [UInt8.toNat_ofNat']; omega
  refine ⟨?_, e⟩
  simp only [digitB, Bool.and_eq_true, decide_eq_true_eq, UInt8.le_iff_toNat_le, e]
  constructor
  · show 48 ≤ 48 + u; omega
  · show 48 + u ≤ 57; omega
theorem dec_allP (u : Nat) : (Lib.decDigits u).all digitB = true := by
  induction u using Nat.strongRecOn with
  | _ u ih =>
  by_cases h : u < 10
  · rw [Lib.decDigits_one h]
    simp only [List.all_cons, List.all_nil, Bool.and_true, (digit_ofNat h).1]
  · rw [Lib.decDigits, dif_neg h, List.all_append, ih (u / 10) (by omega)]
    simp only [List.all_cons, List.all_nil, Bool.and_true, (digit_ofNat (Nat.mod_lt u (by decide : 10 > 0))).1]
theorem dec_valP (u : Nat) : decV (Lib.decDigits u) = u := by
  induction u using Nat.strongRecOn with
  | _ u ih =>
  by_cases h : u < 10
  · rw [Lib.decDigits_one h]
    have := (digit_ofNat h).2
    simp only [decV, List.foldl_cons, List.foldl_nil, this]
    omega
  · rw [Lib.decDigits, dif_neg h, decV_snoc, ih (u / 10) (by omega), (digit_ofNat (Nat.mod_lt u (by decide : 10 > 0))).2]
    omega
theorem dec_head (u : Nat) : ∃ c r, Lib.decDigits u = c :: r ∧ digitB c = true ∧ r.all digitB = true ∧ (c = 48 → r = []) := by
  induction u using Nat.strongRecOn with
  | _ u ih =>
  by_cases h : u < 10
  · exact ⟨_, [], Lib.decDigits_one h, (digit_ofNat h).1, rfl, fun _ => rfl⟩
  · obtain ⟨c, r, e, h1, h2, h3⟩ := ih (u / 10) (by omega)
    refine ⟨c, r ++ [UInt8.ofNat (48 + u % 10)], ?_, h1, ?_, fun q => ?_⟩
    · rw [Lib.decDigits, dif_neg h, e]; rfl
    · rw [List.all_append, h2]; simp only [List.all_cons, List.all_nil, Bool.and_true, (digit_ofNat (Nat.mod_lt u (by decide : 10 > 0))).1]
    · exfalso
      have hr := h3 q
      subst hr
      subst q
      have hv := dec_valP (u / 10)
      rw [e] at hv
      have : decV [48] = 0 := by decide
      omega

/-- A token without its place. -/
def strip (k : Tok) : Int × List UInt8 × Int := (k.kind, k.text, k.n)
def tkW (s : List UInt8) : Int × List UInt8 × Int := (1, s, 0)
def tkS (c : UInt8) : Int × List UInt8 × Int := (3, [c], 0)
def tkN (n : Int) : Int × List UInt8 × Int := (2, Lib.itoa n, n)
def tkOp (op : Int) : Int × List UInt8 × Int := (if op ≤ 7 then 1 else 3, wordP op, 0)
def commaT : List (List (Int × List UInt8 × Int)) → List (Int × List UInt8 × Int)
  | [] => []
  | [a] => a
  | a :: b :: r => a ++ [tkS 44] ++ commaT (b :: r)
/-- The tokens of an expression's text. -/
def ftok : Nat → Ex → List (Int × List UInt8 × Int)
  | 0, _ => []
  | d + 1, .mk op n nm ks =>
    if op = 1 then [tkW (if n = 1 then [116, 114, 117, 101] else [102, 97, 108, 115, 101])]
    else if op = 2 then [tkN n]
    else if op = 3 then [tkW nm]
    else if op = 4 then [tkS 40, tkW [110, 111, 116]] ++ ftok d (kid ks 0) ++ [tkS 41]
    else if infixB op then [tkS 40] ++ ftok d (kid ks 0) ++ [tkOp op] ++ ftok d (kid ks 1) ++ [tkS 41]
    else [tkW (wordP op), tkS 40] ++ commaT (ks.map (ftok d)) ++ (if timedB op then [tkS 44, tkN n] else []) ++ [tkS 41]

theorem toksG_fuel (t : List UInt8) : ∀ f f' i acc, t.length - i < f → t.length - i < f' → toksG t f i acc = toksG t f' i acc
  | 0, _, _, _, h, _ => absurd h (by omega)
  | f + 1, 0, _, _, _, h => absurd h (by omega)
  | f + 1, f' + 1, i, acc, h, h' => by
    unfold toksG
    cases hc : t[i]? with
    | none => rfl
    | some c =>
      obtain ⟨hi, -⟩ := List.getElem?_eq_some_iff.1 hc
      simp only
      cases hk : tokAt t i c with
      | error e => rfl
      | ok v =>
        obtain ⟨o, j⟩ := v
        obtain ⟨h1, h2, -⟩ := tokAt_ok hc hk
        cases o with
        | none => exact toksG_fuel t f f' j acc (by omega) (by omega)
        | some k => exact toksG_fuel t f f' j _ (by omega) (by omega)
/-- From the remaining text s the tokens ks are read, and rest remains. -/
def Eats (t s rest : List UInt8) (ks : List (Int × List UInt8 × Int)) : Prop :=
  ∀ i acc f, t.drop i = s → i ≤ t.length → t.length - i < f → ∃ toks j f', t.drop j = rest ∧ j ≤ t.length ∧ toks.map strip = ks ∧ t.length - j < f' ∧ toksG t f i acc = toksG t f' j (acc ++ toks)
theorem Eats.refl (t s : List UInt8) : Eats t s s [] := fun i acc f h hi hf => ⟨[], i, f, h, hi, rfl, hf, by rw [List.append_nil]⟩
theorem Eats.trans {t a b c : List UInt8} {k1 k2 : List (Int × List UInt8 × Int)} (h1 : Eats t a b k1) (h2 : Eats t b c k2) : Eats t a c (k1 ++ k2) := by
  intro i acc f h hi hf
  obtain ⟨t1, j, f1, a1, a2, a3, a4, a5⟩ := h1 i acc f h hi hf
  obtain ⟨t2, k, f2, b1, b2, b3, b4, b5⟩ := h2 j (acc ++ t1) f1 a1 a2 a4
  exact ⟨t1 ++ t2, k, f2, b1, b2, by rw [List.map_append, a3, b3], b4, by rw [a5, b5, List.append_assoc]⟩
theorem drop_get {t r : List UInt8} {i : Nat} {c : UInt8} (h : t.drop i = c :: r) : t[i]? = some c ∧ i < t.length ∧ t.drop (i + 1) = r := by
  have hi : i < t.length := Nat.lt_of_not_le fun q => by rw [List.drop_eq_nil_of_le q] at h; cases h
  rw [List.drop_eq_getElem_cons hi] at h
  injection h with h1 h2
  exact ⟨by rw [List.getElem?_eq_getElem hi, h1], hi, h2⟩
theorem Eats.one {t s rest r : List UInt8} {c : UInt8} (hs : s = c :: r) {ks : List (Int × List UInt8 × Int)} (h : ∀ i, t.drop i = s → ∃ o j, tokAt t i c = .ok (o, j) ∧ t.drop j = rest ∧ o.toList.map strip = ks) : Eats t s rest ks := by
  intro i acc f hd hi hf
  subst hs
  obtain ⟨hc, hil, -⟩ := drop_get hd
  obtain ⟨o, j, h1, h2, h3⟩ := h i hd
  obtain ⟨h4, h5, -⟩ := tokAt_ok hc h1
  cases f with
  | zero => exact absurd hf (by omega)
  | succ f =>
    refine ⟨o.toList, j, f, h2, h5, h3, by omega, ?_⟩
    rw [toksG, hc]
    simp only [h1]
    cases o with
    | none => simp
    | some k => simp
theorem Eats.space {t r : List UInt8} : Eats t (32 :: r) r [] := Eats.one rfl fun i h => ⟨none, i + 1, by simp [tokAt], (drop_get h).2.2, rfl⟩
theorem Eats.sym {t r : List UInt8} (c : UInt8) (h1 : (c == 32) = false) (h2 : letterB c = false) (h3 : digitB c = false) (h4 : symB c = true) : Eats t (c :: r) r [tkS c] :=
  Eats.one rfl fun i h => ⟨some ⟨3, [c], i, 0⟩, i + 1, by simp [tokAt, h1, h2, h3, h4], (drop_get h).2.2, rfl⟩
def delim (p : UInt8 → Bool) (l : List UInt8) : Prop := ∀ c r, l = c :: r → p c = false
theorem takeWhile_delim {p : UInt8 → Bool} {a l : List UInt8} (ha : a.all p = true) (hl : delim p l) : (a ++ l).takeWhile p = a := by
  induction a with
  | nil =>
    cases l with
    | nil => rfl
    | cons c r => rw [List.nil_append, List.takeWhile_cons, hl c r rfl]; rfl
  | cons x a ih =>
    simp only [List.all_cons, Bool.and_eq_true] at ha
    rw [List.cons_append, List.takeWhile_cons, if_pos ha.1, ih ha.2]
theorem letter_ne {c : UInt8} (h : letterB c = true) : (c == 32) = false := by
  cases hq : (c == 32)
  · rfl
  · rw [eq_of_beq hq] at h; exact absurd h (by decide)
theorem digit_ne {c : UInt8} (h : digitB c = true) : (c == 32) = false ∧ letterB c = false := by
  refine ⟨?_, ?_⟩
  · cases hq : (c == 32)
    · rfl
    · rw [eq_of_beq hq] at h; exact absurd h (by decide)
  · simp only [digitB, Bool.and_eq_true, decide_eq_true_eq, UInt8.le_iff_toNat_le] at h
    have h1 : 48 ≤ c.toNat := h.1
    have h2 : c.toNat ≤ 57 := h.2
    cases hl : letterB c
    · rfl
    · simp only [letterB, Bool.or_eq_true, Bool.and_eq_true, decide_eq_true_eq, UInt8.le_iff_toNat_le] at hl
      have : (97 ≤ c.toNat ∧ c.toNat ≤ 122) ∨ (65 ≤ c.toNat ∧ c.toNat ≤ 90) := hl
      omega
theorem Eats.word {t rest r : List UInt8} {c : UInt8} (hc : letterB c = true) (hr : r.all wordB = true) (hl : r.length < 12) (hd : delim wordB rest) : Eats t (c :: r ++ rest) rest [tkW (c :: r)] :=
  Eats.one (r := r ++ rest) rfl fun i h => by
    obtain ⟨hg, hi, hn⟩ := drop_get h
    have hw : (t.drop (i + 1)).takeWhile wordB = r := by rw [hn]; exact takeWhile_delim hr hd
    have hrun : runB wordB t (i + 1) = i + 1 + r.length := by unfold runB; rw [hw]
    refine ⟨some ⟨1, c :: r, i, 0⟩, i + 1 + r.length, ?_, ?_, rfl⟩
    · unfold tokAt
      rw [letter_ne hc, hc, cut_run wordB t i c hg, hw, hrun]
      simp only [Bool.false_eq_true, if_false, if_true]
      rw [if_neg (by omega)]
    · rw [← List.drop_drop, hn, List.drop_left]
theorem Eats.num {t rest : List UInt8} {n : Int} (h0 : 0 ≤ n) (h1 : n ≤ 32767) (hd : delim digitB rest) : Eats t (Lib.itoa n ++ rest) rest [tkN n] := by
  obtain ⟨c, r, e, hc, hr, hz⟩ := dec_head n.toNat
  have hv := dec_valP n.toNat
  have ei : Lib.itoa n = c :: r := by rw [itoa_decP h0, e]
  rw [e] at hv
  unfold tkN
  rw [ei]
  refine Eats.one (r := r ++ rest) rfl fun i h => ?_
  obtain ⟨hg, hi, hn⟩ := drop_get h
  have hw : (t.drop (i + 1)).takeWhile digitB = r := by rw [hn]; exact takeWhile_delim hr hd
  have hrun : runB digitB t (i + 1) = i + 1 + r.length := by unfold runB; rw [hw]
  obtain ⟨n1, n2⟩ := digit_ne hc
  refine ⟨some ⟨2, c :: r, i, decV (c :: r)⟩, i + 1 + r.length, ?_, ?_, ?_⟩
  · unfold tokAt
    rw [n1, n2, hc, cut_run digitB t i c hg, hw, hrun]
    simp only [Bool.false_eq_true, if_false, if_true]
    rw [if_neg]
    rintro (q | ⟨q1, q2⟩)
    · omega
    · rw [hz q2] at q1; simp at q1
  · rw [← List.drop_drop, hn, List.drop_left]
  · show [strip ⟨2, c :: r, i, decV (c :: r)⟩] = _
    unfold strip
    rw [hv]
    simp only [List.cons.injEq, Prod.mk.injEq, and_true, true_and]
    omega
theorem Eats.str {t a rest : List UInt8} {k : List (Int × List UInt8 × Int)} {s : List UInt8} (h : Eats t s rest k) (e : s = a) : Eats t a rest k := e ▸ h
theorem delim_cons {p : UInt8 → Bool} {c : UInt8} {r : List UInt8} (h : p c = false) : delim p (c :: r) := fun _ _ q => by cases q; exact h
theorem delim_digit {l : List UInt8} (h : delim wordB l) : delim digitB l := fun c r q => by
  have := h c r q
  unfold wordB at this
  simp only [Bool.or_eq_false_iff] at this
  exact this.1.2
theorem Eats.comma {t : List UInt8} {F : Ex → List UInt8} {G : Ex → List (Int × List UInt8 × Int)} : ∀ (ks : List Ex) (rest : List UInt8), delim wordB rest → (∀ k ∈ ks, ∀ rest, delim wordB rest → Eats t (F k ++ rest) rest (G k)) → Eats t (commaL (ks.map F) ++ rest) rest (commaT (ks.map G))
  | [], rest, _, _ => Eats.refl _ _
  | [a], rest, hd, h => h a (by simp) rest hd
  | a :: b :: r, rest, hd, h => by
    have e1 := h a (by simp) ([44, 32] ++ commaL ((b :: r).map F) ++ rest) (delim_cons (by decide))
    have e2 : Eats t ([44, 32] ++ commaL ((b :: r).map F) ++ rest) (commaL ((b :: r).map F) ++ rest) [tkS 44] := (Eats.sym 44 (by decide) (by decide) (by decide) (by decide)).trans Eats.space
    have e3 := Eats.comma (t := t) (b :: r) rest hd (fun k hk => h k (List.mem_cons_of_mem _ hk))
    have := (e1.trans e2).trans e3
    simpa [commaL, commaT, List.append_assoc] using this
/-- The text of an expression has these tokens. -/
theorem node_parts {op n : Int} {nm : List UInt8} {k : Nat} (h : nodeB op n nm k = true) : (k : Int) = arityP op ∧ (op = 3 → n = 0 ∧ nameB nm = true) ∧ (op ≠ 3 → nm = [] ∧ 0 ≤ n ∧ n ≤ mostP op) := by
  unfold nodeB at h
  simp only [Bool.and_eq_true, decide_eq_true_eq] at h
  refine ⟨h.1, fun q => ?_, fun q => ?_⟩
  · have h2 := h.2
    rw [if_pos q] at h2
    simp only [Bool.and_eq_true, decide_eq_true_eq] at h2
    exact h2
  · have h2 := h.2
    rw [if_neg q] at h2
    simp only [Bool.and_eq_true, decide_eq_true_eq, List.isEmpty_iff] at h2
    exact ⟨h2.1, h2.2.1, h2.2.2⟩
theorem arity_range {op : Int} {k : Nat} (h : (k : Int) = arityP op) : 1 ≤ op ∧ op ≤ 22 := by
  unfold arityP at h
  split at h
  · omega
  split at h
  · omega
  split at h
  · omega
  split at h
  · omega
  · omega
theorem most_le (op : Int) : mostP op ≤ 32767 := by
  unfold mostP
  repeat' split
  all_goals omega
theorem Eats.name {t rest nm : List UInt8} (h : nameB nm = true) (hd : delim wordB rest) : Eats t (nm ++ rest) rest [tkW nm] := by
  unfold nameB at h
  simp only [Bool.and_eq_true] at h
  have h1 := h.1
  unfold plainB at h1
  cases nm with
  | nil => cases h1
  | cons c r =>
    simp only [Bool.and_eq_true, decide_eq_true_eq] at h1
    exact Eats.word h1.1.2 h1.2 h1.1.1 hd
theorem Eats.opw {t rest : List UInt8} (op : Int) (h1 : 4 ≤ op) (h2 : op ≤ 22) (hd : delim wordB rest) : Eats t (wordP op ++ rest) rest [tkOp op] ∨ ¬ infixB op = true := by
  have hop : op = 4 ∨ op = 5 ∨ op = 6 ∨ op = 7 ∨ op = 8 ∨ op = 9 ∨ op = 10 ∨ op = 11 ∨ op = 12 ∨ 13 ≤ op := by omega
  rcases hop with rfl | rfl | rfl | rfl | rfl | rfl | rfl | rfl | rfl | h
  · exact .inr (by decide)
  · exact .inl (Eats.word (t := t) (c := 97) (r := [110, 100]) (by decide) (by decide) (by decide) hd)
  · exact .inl (Eats.word (t := t) (c := 111) (r := [114]) (by decide) (by decide) (by decide) hd)
  · exact .inl (Eats.word (t := t) (c := 120) (r := [111, 114]) (by decide) (by decide) (by decide) hd)
  · exact .inl (Eats.sym (t := t) 60 (by decide) (by decide) (by decide) (by decide))
  · exact .inl (Eats.sym (t := t) 62 (by decide) (by decide) (by decide) (by decide))
  · exact .inl (Eats.sym (t := t) 61 (by decide) (by decide) (by decide) (by decide))
  · exact .inl (Eats.sym (t := t) 43 (by decide) (by decide) (by decide) (by decide))
  · exact .inl (Eats.sym (t := t) 45 (by decide) (by decide) (by decide) (by decide))
  · refine .inr fun q => ?_
    unfold infixB at q
    simp only [decide_eq_true_eq] at q
    omega
theorem call_word {op : Int} (h1 : 13 ≤ op) (h2 : op ≤ 22) : ∃ c r, wordP op = c :: r ∧ letterB c = true ∧ r.all wordB = true ∧ r.length < 12 := by
  have hop : op = 13 ∨ op = 14 ∨ op = 15 ∨ op = 16 ∨ op = 17 ∨ op = 18 ∨ op = 19 ∨ op = 20 ∨ op = 21 ∨ op = 22 := by omega
  rcases hop with rfl | rfl | rfl | rfl | rfl | rfl | rfl | rfl | rfl | rfl
  all_goals exact ⟨_, _, rfl, by decide, by decide, by decide⟩
theorem kid_mem {ks : List Ex} {k : Nat} (h : k < ks.length) : kid ks k ∈ ks := by
  unfold kid
  rw [List.getD_eq_getElem?_getD, List.getElem?_eq_getElem h]
  exact List.getElem_mem h
theorem eats_fmt (t : List UInt8) : ∀ d x rest, okG d x → delim wordB rest → Eats t (fmtG d x ++ rest) rest (ftok d x)
  | 0, _, _, h, _ => h.elim
  | d + 1, .mk op n nm ks, rest, h, hd => by
    obtain ⟨hn, hk⟩ := h
    obtain ⟨h1, h3, h4⟩ := node_parts hn
    obtain ⟨r1, r2⟩ := arity_range h1
    have ml := most_le op
    have ih := fun k hk' rest hr => eats_fmt t d k rest (hk k hk') hr
    unfold fmtG ftok
    by_cases e1 : op = 1
    · rw [if_pos e1, if_pos e1]
      by_cases e : n = 1
      · rw [if_pos e]; exact Eats.word (c := 116) (r := [114, 117, 101]) (by decide) (by decide) (by decide) hd
      · rw [if_neg e]; exact Eats.word (c := 102) (r := [97, 108, 115, 101]) (by decide) (by decide) (by decide) hd
    rw [if_neg e1, if_neg e1]
    by_cases e2 : op = 2
    · rw [if_pos e2, if_pos e2]
      obtain ⟨-, a, b⟩ := h4 (by omega)
      exact Eats.num a (by omega) (delim_digit hd)
    rw [if_neg e2, if_neg e2]
    by_cases e3 : op = 3
    · rw [if_pos e3, if_pos e3]
      exact Eats.name (h3 e3).2 hd
    rw [if_neg e3, if_neg e3]
    by_cases e4 : op = 4
    · rw [if_pos e4, if_pos e4]
      have hl : ks.length = 1 := by rw [e4] at h1; have : arityP 4 = 1 := by decide
                                    omega
      have a1 : Eats t (40 :: ([110, 111, 116] ++ (32 :: (fmtG d (kid ks 0) ++ (41 :: rest))))) _ [tkS 40] := Eats.sym 40 (by decide) (by decide) (by decide) (by decide)
      have a2 := Eats.word (t := t) (rest := 32 :: (fmtG d (kid ks 0) ++ (41 :: rest))) (c := 110) (r := [111, 116]) (by decide) (by decide) (by decide) (delim_cons (by decide))
      have a3 : Eats t (32 :: (fmtG d (kid ks 0) ++ (41 :: rest))) _ [] := Eats.space
      have a4 := ih (kid ks 0) (kid_mem (by omega)) (41 :: rest) (delim_cons (by decide))
      have a5 : Eats t (41 :: rest) rest [tkS 41] := Eats.sym 41 (by decide) (by decide) (by decide) (by decide)
      have := ((((a1.trans a2).trans a3).trans a4).trans a5)
      simpa [List.append_assoc] using this
    rw [if_neg e4, if_neg e4]
    by_cases e5 : infixB op = true
    · rw [if_pos e5, if_pos e5]
      have e5' : 5 ≤ op ∧ op ≤ 12 := by unfold infixB at e5; simpa using e5
      have hl : ks.length = 2 := by
        have : arityP op = 2 := by
          unfold arityP
          rw [if_neg (by omega), if_neg (by omega), if_neg (by omega), if_pos (by omega)]
        omega
      have a1 : Eats t (40 :: (fmtG d (kid ks 0) ++ (32 :: (wordP op ++ (32 :: (fmtG d (kid ks 1) ++ (41 :: rest))))))) _ [tkS 40] := Eats.sym 40 (by decide) (by decide) (by decide) (by decide)
      have a2 := ih (kid ks 0) (kid_mem (by omega)) (32 :: (wordP op ++ (32 :: (fmtG d (kid ks 1) ++ (41 :: rest))))) (delim_cons (by decide))
      have a3 : Eats t (32 :: (wordP op ++ (32 :: (fmtG d (kid ks 1) ++ (41 :: rest))))) _ [] := Eats.space
      have a4 : Eats t (wordP op ++ (32 :: (fmtG d (kid ks 1) ++ (41 :: rest)))) _ [tkOp op] := (Eats.opw op (by omega) (by omega) (delim_cons (by decide))).resolve_right (fun q => q e5)
      have a5 : Eats t (32 :: (fmtG d (kid ks 1) ++ (41 :: rest))) _ [] := Eats.space
      have a6 := ih (kid ks 1) (kid_mem (by omega)) (41 :: rest) (delim_cons (by decide))
      have a7 : Eats t (41 :: rest) rest [tkS 41] := Eats.sym 41 (by decide) (by decide) (by decide) (by decide)
      have := ((((((a1.trans a2).trans a3).trans a4).trans a5).trans a6).trans a7)
      simpa [List.append_assoc] using this
    rw [if_neg e5, if_neg e5]
    have e6 : 13 ≤ op := by
      unfold infixB at e5
      simp only [decide_eq_true_eq] at e5
      omega
    obtain ⟨c, r, hw, w1, w2, w3⟩ := call_word e6 r2
    obtain ⟨-, n0, n1⟩ := h4 e3
    have a5 : Eats t (41 :: rest) rest [tkS 41] := Eats.sym 41 (by decide) (by decide) (by decide) (by decide)
    have a4 : Eats t ((if timedB op then [44, 32] ++ Lib.itoa n else []) ++ (41 :: rest)) (41 :: rest) (if timedB op then [tkS 44, tkN n] else []) := by
      cases timedB op
      · exact Eats.refl _ _
      · have b1 : Eats t (44 :: 32 :: (Lib.itoa n ++ (41 :: rest))) _ [tkS 44] := Eats.sym 44 (by decide) (by decide) (by decide) (by decide)
        have b2 : Eats t (32 :: (Lib.itoa n ++ (41 :: rest))) _ [] := Eats.space
        have b3 := Eats.num (t := t) (rest := 41 :: rest) n0 (by omega) (delim_cons (by decide))
        have := (b1.trans b2).trans b3
        simpa [List.append_assoc] using this
    have hdl : delim wordB ((if timedB op then [44, 32] ++ Lib.itoa n else []) ++ (41 :: rest)) := by
      cases timedB op
      · exact delim_cons (by decide)
      · exact delim_cons (by decide)
    have a3 := Eats.comma (t := t) (F := fmtG d) (G := ftok d) ks _ hdl ih
    have a2 : Eats t (40 :: (commaL (ks.map (fmtG d)) ++ ((if timedB op then [44, 32] ++ Lib.itoa n else []) ++ (41 :: rest)))) _ [tkS 40] := Eats.sym 40 (by decide) (by decide) (by decide) (by decide)
    have a1 := Eats.word (t := t) (c := c) (r := r) w1 w2 w3 (delim_cons (p := wordB) (c := 40) (r := commaL (ks.map (fmtG d)) ++ ((if timedB op then [44, 32] ++ Lib.itoa n else []) ++ (41 :: rest))) (by decide))
    rw [← hw] at a1
    have := (((a1.trans a2).trans a3).trans a4).trans a5
    simpa [List.append_assoc] using this
/-- The tokens of a whole text. -/
theorem toks_fmt {x : Ex} (h : okG 16 x) : ∃ l, toksP (fmtG 16 x) = .ok l ∧ l.map strip = ftok 16 x := by
  have := eats_fmt (fmtG 16 x) 16 x [] h (fun _ _ q => by cases q)
  rw [List.append_nil] at this
  obtain ⟨toks, j, f', h1, h2, h3, h4, h5⟩ := this 0 [] ((fmtG 16 x).length + 1) rfl (Nat.zero_le _) (by omega)
  refine ⟨toks, ?_, h3⟩
  unfold toksP
  rw [h5]
  have hj : j = (fmtG 16 x).length := by
    have := congrArg List.length h1
    rw [List.length_drop] at this
    simp only [List.length_nil] at this
    omega
  cases f' with
  | zero => exact absurd h4 (by omega)
  | succ f' =>
    rw [toksG, List.getElem?_eq_none (by omega)]
    rfl
end Go.Proofs.YtmbmngnnfkdngaaGreatDoor
