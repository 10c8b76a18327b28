/-
  The parser reads back what the formatter wrote, in plain words. No program is named here.
-/
import Derived.Test.YtcikenlflcofbaaGreatDoorP1
namespace Go.Proofs.YtcikenlflcofbaaGreatDoor

theorem parseP_any {f : Nat} {t : List UInt8} {r : Ex × Int × Int} (h : parseF f t = some r) : parseP t = r := by
  have h1 := parseF_mono (Nat.le_max_left f 1000) h
  have h2 := parseF_mono (Nat.le_max_right f 1000) (parseP_eq t)
  rw [h1] at h2
  injection h2 with h2
  exact h2.symm
theorem see {L : List Tok} {i : Nat} {k : Int × List UInt8 × Int} {rest : List (Int × List UInt8 × Int)} (h : (L.map strip).drop i = k :: rest) : (tk L i).kind = k.1 ∧ (tk L i).text = k.2.1 ∧ (tk L i).n = k.2.2 ∧ (L.map strip).drop (i + 1) = rest := by
  have hi : i < (L.map strip).length := Nat.lt_of_not_le fun q => by rw [List.drop_eq_nil_of_le q] at h; cases h
  rw [List.drop_eq_getElem_cons hi] at h
  injection h with h1 h2
  rw [List.length_map] at hi
  rw [List.getElem_map] at h1
  have ht : tk L i = L[i] := by unfold tk; rw [List.getD_eq_getElem?_getD, List.getElem?_eq_getElem hi]; rfl
  rw [ht, ← h1]
  exact ⟨rfl, rfl, rfl, h2⟩
theorem see_at {L : List Tok} {i : Nat} {a b : List (Int × List UInt8 × Int)} (h : (L.map strip).drop i = a ++ b) : (L.map strip).drop (i + a.length) = b := by
  rw [← List.drop_drop, h, List.drop_left]
theorem see_take {L : List Tok} {i : Nat} {k : Int × List UInt8 × Int} {rest : List (Int × List UInt8 × Int)} (h : (L.map strip).drop i = k :: rest) (hk : k.1 ≠ 0) : takeI L i = i + 1 := by
  unfold takeI
  rw [if_neg (by rw [(see h).1]; exact hk)]
theorem see_isT {L : List Tok} {i : Nat} {k : Int × List UInt8 × Int} {rest : List (Int × List UInt8 × Int)} (h : (L.map strip).drop i = k :: rest) (s : List UInt8) : isT L i s = (k.2.1 == s) := by
  unfold isT
  rw [(see h).2.1]
theorem kS (c : UInt8) : (tkS c).1 ≠ 0 := by show (3 : Int) ≠ 0; decide
theorem kW (s : List UInt8) : (tkW s).1 ≠ 0 := by show (1 : Int) ≠ 0; decide
theorem kN (n : Int) : (tkN n).1 ≠ 0 := by show (2 : Int) ≠ 0; decide
/-- With enough rounds the part comes to this. -/
def Ok (L : List Tok) (lv : Lv) (i : Nat) (x : Ex) (j : Nat) (la : Int) : Prop := ∃ f0, ∀ f, f0 ≤ f → pLev L f lv i la = some (.ok (x, j, la))
def IsChain (lv sub : Lv) (ops : List (List UInt8)) : Prop := ∀ L f i la, pLev L (f + 1) lv i la = pChain L (pLev L f sub) ops f i la
theorem ch_sum : IsChain .sum .prim [[43], [45]] := fun _ _ _ _ => rfl
theorem ch_and : IsChain .conj .neg [[97, 110, 100]] := fun _ _ _ _ => rfl
theorem ch_xor : IsChain .xor .conj [[120, 111, 114]] := fun _ _ _ _ => rfl
theorem ch_or : IsChain .expr .xor [[111, 114]] := fun _ _ _ _ => rfl
theorem Ok.one {L : List Tok} {lv sub : Lv} {ops : List (List UInt8)} {i j : Nat} {x : Ex} {la : Int} (hc : IsChain lv sub ops) (h : Ok L sub i x j la) (hn : ops.contains (tk L j).text = false) : Ok L lv i x j la := by
  obtain ⟨f0, h0⟩ := h
  refine ⟨f0 + 2, fun f hf => ?_⟩
  obtain ⟨g, rfl⟩ : ∃ g, f = g + 1 + 1 := ⟨f - 2, by omega⟩
  rw [hc, pChain, h0 (g + 1) (by omega)]
  show pMore L _ ops (g + 1) x j la = _
  rw [pMore, hn]
  rfl
theorem Ok.two {L : List Tok} {lv sub : Lv} {ops : List (List UInt8)} {i j k : Nat} {x y : Ex} {la : Int} (hc : IsChain lv sub ops) (h : Ok L sub i x j la) (hn : ops.contains (tk L j).text = true) (ht : takeI L j = j + 1) (h2 : Ok L sub (j + 1) y k la) (hk : ops.contains (tk L k).text = false) :
    Ok L lv i (.mk (operationP (tk L j).text) 0 [] [x, y]) k la := by
  obtain ⟨f0, h0⟩ := h
  obtain ⟨f1, h1⟩ := h2
  refine ⟨f0 + f1 + 3, fun f hf => ?_⟩
  obtain ⟨g, rfl⟩ : ∃ g, f = g + 1 + 1 + 1 := ⟨f - 3, by omega⟩
  rw [hc, pChain, h0 (g + 1 + 1) (by omega)]
  show pMore L _ ops (g + 1 + 1) x j la = _
  rw [pMore, hn, if_pos rfl, ht, h1 (g + 1 + 1) (by omega)]
  show pMore L _ ops (g + 1) _ k la = _
  rw [pMore, hk]
  rfl
theorem Ok.not_off {L : List Tok} {i j : Nat} {x : Ex} {la : Int} (h : Ok L .rel i x j la) (hn : isT L i [110, 111, 116] = false) : Ok L .neg i x j la := by
  obtain ⟨f0, h0⟩ := h
  refine ⟨f0 + 1, fun f hf => ?_⟩
  obtain ⟨g, rfl⟩ : ∃ g, f = g + 1 := ⟨f - 1, by omega⟩
  rw [pLev, hn]
  exact h0 g (by omega)
theorem Ok.not_on {L : List Tok} {i j : Nat} {x : Ex} {la : Int} (h : Ok L .neg (i + 1) x j la) (hn : isT L i [110, 111, 116] = true) (ht : takeI L i = i + 1) : Ok L .neg i (.mk 4 0 [] [x]) j la := by
  obtain ⟨f0, h0⟩ := h
  refine ⟨f0 + 1, fun f hf => ?_⟩
  obtain ⟨g, rfl⟩ : ∃ g, f = g + 1 := ⟨f - 1, by omega⟩
  rw [pLev, hn, if_pos rfl, ht, h0 g (by omega)]
  rfl
theorem Ok.rel_one {L : List Tok} {i j : Nat} {x : Ex} {la : Int} (h : Ok L .sum i x j la) (hn : [[60], [62], [61]].contains (tk L j).text = false) : Ok L .rel i x j la := by
  obtain ⟨f0, h0⟩ := h
  refine ⟨f0 + 1, fun f hf => ?_⟩
  obtain ⟨g, rfl⟩ : ∃ g, f = g + 1 := ⟨f - 1, by omega⟩
  rw [pLev, h0 g (by omega)]
  show (if _ then _ else _) = _
  rw [hn]
  rfl
theorem Ok.rel_two {L : List Tok} {i j k : Nat} {x y : Ex} {la : Int} (h : Ok L .sum i x j la) (hn : [[60], [62], [61]].contains (tk L j).text = true) (ht : takeI L j = j + 1) (h2 : Ok L .sum (j + 1) y k la) : Ok L .rel i (.mk (operationP (tk L j).text) 0 [] [x, y]) k la := by
  obtain ⟨f0, h0⟩ := h
  obtain ⟨f1, h1⟩ := h2
  refine ⟨f0 + f1 + 1, fun f hf => ?_⟩
  obtain ⟨g, rfl⟩ : ∃ g, f = g + 1 := ⟨f - 1, by omega⟩
  rw [pLev, h0 g (by omega)]
  show (if _ then _ else _) = _
  rw [hn, if_pos rfl, ht, h1 g (by omega)]
  rfl
/-- A token's text that joins nothing. -/
def freeT (s : List UInt8) : Bool := !([[43], [45], [60], [62], [61], [97, 110, 100], [120, 111, 114], [111, 114]].contains s)
theorem free_all {s : List UInt8} (h : freeT s = true) : [[43], [45]].contains s = false ∧ [[60], [62], [61]].contains s = false ∧ [[97, 110, 100]].contains s = false ∧ [[120, 111, 114]].contains s = false ∧ [[111, 114]].contains s = false := by
  unfold freeT at h
  simp only [Bool.not_eq_true', List.contains_cons, List.contains_nil, Bool.or_eq_false_iff] at h ⊢
  obtain ⟨a, b, c, d, e, f, g, k, -⟩ := h
  exact ⟨⟨a, b, trivial⟩, ⟨c, d, e, trivial⟩, ⟨f, trivial⟩, ⟨g, trivial⟩, ⟨k, trivial⟩⟩
theorem Ok.up {L : List Tok} {i j : Nat} {x : Ex} {la : Int} (h : Ok L .prim i x j la) (hn : isT L i [110, 111, 116] = false) (hf : freeT (tk L j).text = true) : Ok L .expr i x j la := by
  obtain ⟨a, b, c, d, e⟩ := free_all hf
  exact (((((h.one ch_sum a).rel_one b).not_off hn).one ch_and c).one ch_xor d).one ch_or e
theorem digit_free {c : UInt8} {r : List UInt8} (hc : digitB c = true) (ws : List (List UInt8)) (h : ws.all (fun w => !digitB (w.headD 0)) = true) : ws.contains (c :: r) = false := by
  cases hq : ws.contains (c :: r)
  · rfl
  · have := List.all_eq_true.1 h _ (List.contains_iff_mem.1 hq)
    simp [hc] at this
theorem name_free {s : List UInt8} (h : nameB s = true) (ws : List (List UInt8)) (hw : ws.all (fun w => !nameB w) = true) : ws.contains s = false := by
  cases hq : ws.contains s
  · rfl
  · have := List.all_eq_true.1 hw _ (List.contains_iff_mem.1 hq)
    simp [h] at this
theorem beq_of_free {s w : List UInt8} {ws : List (List UInt8)} (h : ws.contains s = false) (hw : w ∈ ws) : (s == w) = false := by
  cases hq : (s == w)
  · rfl
  · rw [eq_of_beq hq] at h
    rw [List.contains_iff_mem.2 hw] at h
    cases h
def primWords : List (List UInt8) := [[40], [116, 114, 117, 101], [102, 97, 108, 115, 101], [110, 111, 116], [109, 105, 110], [109, 97, 120], [97, 98, 115], [105, 102], [114, 105, 115, 101], [102, 97, 108, 108], [100, 101, 108, 97, 121], [104, 111, 108, 100], [108, 97, 116, 99, 104], [99, 111, 117, 110, 116]]
theorem prim_free {s : List UInt8} (h : primWords.contains s = false) : (s == [40]) = false ∧ (s == [116, 114, 117, 101]) = false ∧ (s == [102, 97, 108, 115, 101]) = false ∧ (s == [110, 111, 116]) = false ∧ callWords.contains s = false := by
  refine ⟨beq_of_free h (by decide), beq_of_free h (by decide), beq_of_free h (by decide), beq_of_free h (by decide), ?_⟩
  cases hq : callWords.contains s
  · rfl
  · have hm := List.contains_iff_mem.1 hq
    have : s ∈ primWords := by
      have e : primWords = [[40], [116, 114, 117, 101], [102, 97, 108, 115, 101], [110, 111, 116]] ++ callWords := by decide
      rw [e]
      exact List.mem_append_right _ hm
    rw [List.contains_iff_mem.2 this] at h
    cases h
/-- The first token of an expression's text is no 'not'. -/
theorem first_fmt : ∀ d x, okG d x → ∃ k r, ftok d x = k :: r ∧ (k.2.1 == [110, 111, 116]) = false
  | 0, _, h => h.elim
  | d + 1, .mk op n nm ks, h => by
    obtain ⟨hn, hk⟩ := h
    obtain ⟨h1, h3, h4⟩ := node_parts hn
    obtain ⟨r1, r2⟩ := arity_range h1
    unfold ftok
    by_cases e1 : op = 1
    · rw [if_pos e1]
      refine ⟨_, _, rfl, ?_⟩
      show ((if n = 1 then [116, 114, 117, 101] else [102, 97, 108, 115, 101]) == [110, 111, 116]) = false
      split <;> decide
    rw [if_neg e1]
    by_cases e2 : op = 2
    · rw [if_pos e2]
      obtain ⟨-, a, b⟩ := h4 (by omega)
      obtain ⟨c, r, e, hc, -, -⟩ := dec_head n.toNat
      refine ⟨_, _, rfl, ?_⟩
      show (Lib.itoa n == [110, 111, 116]) = false
      rw [itoa_decP a, e]
      exact (prim_free (digit_free hc primWords (by decide))).2.2.2.1
    rw [if_neg e2]
    by_cases e3 : op = 3
    · rw [if_pos e3]
      exact ⟨_, _, rfl, (prim_free (name_free (h3 e3).2 primWords (by decide))).2.2.2.1⟩
    rw [if_neg e3]
    by_cases e4 : op = 4
    · rw [if_pos e4]; exact ⟨_, _, rfl, by decide⟩
    rw [if_neg e4]
    by_cases e5 : infixB op = true
    · rw [if_pos e5]; exact ⟨_, _, rfl, by decide⟩
    rw [if_neg e5]
    refine ⟨_, _, rfl, ?_⟩
    show (wordP op == [110, 111, 116]) = false
    have e6 : 13 ≤ op := by
      unfold infixB at e5
      simp only [decide_eq_true_eq] at e5
      omega
    have hop : op = 13 ∨ op = 14 ∨ op = 15 ∨ op = 16 ∨ op = 17 ∨ op = 18 ∨ op = 19 ∨ op = 20 ∨ op = 21 ∨ op = 22 := by omega
    rcases hop with rfl | rfl | rfl | rfl | rfl | rfl | rfl | rfl | rfl | rfl
    all_goals decide
def argsT (d : Nat) : Bool → List Ex → List (Int × List UInt8 × Int)
  | _, [] => []
  | first, k :: r => (if first then [] else [tkS 44]) ++ ftok d k ++ argsT d false r
theorem argsT_comma (d : Nat) : ∀ k r, ftok d k ++ argsT d false r = commaT ((k :: r).map (ftok d))
  | k, [] => by simp [argsT, commaT]
  | k, b :: r => by
    have := argsT_comma d b r
    simp only [argsT, Bool.false_eq_true, if_false, List.map_cons, commaT] at this ⊢
    rw [← this]
    simp [List.append_assoc]
theorem argsT_all (d : Nat) (ks : List Ex) : argsT d true ks = commaT (ks.map (ftok d)) := by
  cases ks with
  | nil => rfl
  | cons k r => rw [← argsT_comma]; simp [argsT]
theorem args_fmt {L : List Tok} {d : Nat} {la : Int} : ∀ (ks acc : List Ex) (i : Nat) (rest : List (Int × List UInt8 × Int)) (b : Bool), b = acc.isEmpty → (L.map strip).drop i = argsT d b ks ++ rest → (∃ k r, rest = k :: r ∧ freeT k.2.1 = true) →
    (∀ x ∈ ks, okG d x) → (∀ x ∈ ks, ∀ i rest, (L.map strip).drop i = ftok d x ++ rest → Ok L .prim i x (i + (ftok d x).length) la) →
    ∃ f0, ∀ f, f0 ≤ f → pArgs L (pLev L f .expr) ks.length acc i la = some (.ok (acc ++ ks, i + (argsT d b ks).length, la))
  | [], acc, i, rest, b, _, _, _, _, _ => ⟨0, fun f _ => by simp [pArgs, argsT]⟩
  | x :: ks, acc, i, rest, b, hb, hS, hr, hok, hP => by
    have hnext : ∃ k r, argsT d false ks ++ rest = k :: r ∧ freeT k.2.1 = true := by
      cases ks with
      | nil => exact hr
      | cons y ks => exact ⟨tkS 44, ftok d y ++ argsT d false ks ++ rest, by simp [argsT, List.append_assoc], by decide⟩
    obtain ⟨k1, r1, e1, fr⟩ := hnext
    obtain ⟨k0, r0, e0, nt⟩ := first_fmt d x (hok x (by simp))
    have step : ∀ i', (L.map strip).drop i' = ftok d x ++ (argsT d false ks ++ rest) → Ok L .expr i' x (i' + (ftok d x).length) la ∧ ∃ f0, ∀ f, f0 ≤ f → pArgs L (pLev L f .expr) ks.length (acc ++ [x]) (i' + (ftok d x).length) la = some (.ok (acc ++ x :: ks, i' + (ftok d x).length + (argsT d false ks).length, la)) := by
      intro i' h'
      have hp := hP x (by simp) i' _ h'
      have h2 := see_at h'
      refine ⟨hp.up ?_ ?_, ?_⟩
      · rw [e0] at h'
        rw [see_isT h']
        exact nt
      · rw [e1] at h2
        rw [(see h2).2.1]
        exact fr
      · have := args_fmt ks (acc ++ [x]) (i' + (ftok d x).length) rest false (by simp) h2 hr (fun y hy => hok y (List.mem_cons_of_mem _ hy)) (fun y hy => hP y (List.mem_cons_of_mem _ hy))
        simpa [List.append_assoc] using this
    cases b with
    | true =>
      simp only [argsT, if_true, List.nil_append, List.append_assoc] at hS
      obtain ⟨⟨f0, h0⟩, f1, h1⟩ := step i hS
      refine ⟨f0 + f1, fun f hf => ?_⟩
      rw [List.length_cons, pArgs, ← hb, if_pos rfl, h0 f (by omega)]
      show pArgs L _ _ _ _ _ = _
      rw [h1 f (by omega)]
      simp [argsT, Nat.add_assoc]
    | false =>
      simp only [argsT, Bool.false_eq_true, if_false, List.append_assoc, List.singleton_append] at hS
      have ht := see_take hS (by decide)
      obtain ⟨-, -, -, hS'⟩ := see hS
      obtain ⟨⟨f0, h0⟩, f1, h1⟩ := step (i + 1) hS'
      refine ⟨f0 + f1, fun f hf => ?_⟩
      rw [List.length_cons, pArgs, ← hb, if_neg (by decide), needP, see_isT hS]
      rw [if_pos (by decide), ht, h0 f (by omega)]
      show pArgs L _ _ _ _ _ = _
      rw [h1 f (by omega)]
      simp [argsT, Nat.add_assoc, Nat.add_comm, Nat.add_left_comm]
theorem need_see {α : Type} {L : List Tok} {i : Nat} {c : UInt8} {rest : List (Int × List UInt8 × Int)} (h : (L.map strip).drop i = tkS c :: rest) (f : Nat → Res α) : needP L [c] i f = f (i + 1) := by
  unfold needP
  rw [see_isT h, see_take h (kS c)]
  show (if ([c] == [c]) = true then _ else _) = _
  rw [if_pos (by simp)]
theorem prim_paren {L : List Tok} {i j : Nat} {x : Ex} {la : Int} {r1 r2 : List (Int × List UInt8 × Int)} (h1 : (L.map strip).drop i = tkS 40 :: r1) (hx : Ok L .expr (i + 1) x j la) (h2 : (L.map strip).drop j = tkS 41 :: r2) : Ok L .prim i x (j + 1) la := by
  obtain ⟨f0, h0⟩ := hx
  refine ⟨f0 + 1, fun f hf => ?_⟩
  obtain ⟨g, rfl⟩ : ∃ g, f = g + 1 := ⟨f - 1, by omega⟩
  rw [pLev, pPrim, see_isT h1, if_pos (by decide), see_take h1 (by decide), h0 g (by omega)]
  simp only [Res.go]
  rw [need_see h2]
theorem kids_one {ks : List Ex} (h : ks.length = 1) : ks = [kid ks 0] := by
  match ks, h with
  | [a], _ => rfl
theorem kids_two {ks : List Ex} (h : ks.length = 2) : ks = [kid ks 0, kid ks 1] := by
  match ks, h with
  | [a, b], _ => rfl
/-- What the formatter wrote is read as one primary. -/
theorem prim_fmt {L : List Tok} : ∀ d x i rest la, okG d x → (L.map strip).drop i = ftok d x ++ rest → Ok L .prim i x (i + (ftok d x).length) la
  | 0, _, _, _, _, h, _ => h.elim
  | d + 1, .mk op n nm ks, i, rest, la, h, hS => by
    obtain ⟨hn, hk⟩ := h
    obtain ⟨h1, h3, h4⟩ := node_parts hn
    obtain ⟨r1, r2⟩ := arity_range h1
    have ih := fun x hx i rest hS => prim_fmt (L := L) d x i rest la (hk x hx) hS
    unfold ftok at hS ⊢
    by_cases e1 : op = 1
    · subst e1
      rw [if_pos rfl] at hS ⊢
      obtain ⟨s1, s2, s3, -⟩ := see hS
      have ha : ks.length = 0 := by have : arityP 1 = 0 := by decide
                                    omega
      obtain rfl : ks = [] := List.length_eq_zero_iff.1 ha
      obtain ⟨rfl, a, b⟩ := h4 (by decide)
      have hm : mostP 1 = 1 := by decide
      refine ⟨1, fun f hf => ?_⟩
      obtain ⟨g, rfl⟩ : ∃ g, f = g + 1 := ⟨f - 1, by omega⟩
      rw [pLev, pPrim, see_isT hS, see_isT hS, see_isT hS, see_take hS (kW _)]
      by_cases e : n = 1
      · subst e; rfl
      · obtain rfl : n = 0 := by omega
        rfl
    rw [if_neg e1] at hS ⊢
    by_cases e2 : op = 2
    · subst e2
      rw [if_pos rfl] at hS ⊢
      obtain ⟨s1, s2, s3, -⟩ := see hS
      have ha : ks.length = 0 := by have : arityP 2 = 0 := by decide
                                    omega
      obtain rfl : ks = [] := List.length_eq_zero_iff.1 ha
      obtain ⟨rfl, a, b⟩ := h4 (by decide)
      obtain ⟨c, r, e, hc, -, -⟩ := dec_head n.toNat
      have ei : Lib.itoa n = c :: r := by rw [itoa_decP a, e]
      obtain ⟨p1, p2, p3, -, p5⟩ := prim_free (digit_free (r := r) hc primWords (by decide))
      rw [← ei] at p1 p2 p3 p5
      refine ⟨1, fun f hf => ?_⟩
      obtain ⟨g, rfl⟩ : ∃ g, f = g + 1 := ⟨f - 1, by omega⟩
      rw [pLev, pPrim, see_isT hS, see_isT hS, see_isT hS, see_take hS (kN _), s1, s2, s3]
      simp only [tkN, p1, p2, p3, p5, Bool.false_eq_true, if_false, if_true]
      rfl
    rw [if_neg e2] at hS ⊢
    by_cases e3 : op = 3
    · subst e3
      rw [if_pos rfl] at hS ⊢
      obtain ⟨s1, s2, s3, -⟩ := see hS
      have ha : ks.length = 0 := by have : arityP 3 = 0 := by decide
                                    omega
      obtain rfl : ks = [] := List.length_eq_zero_iff.1 ha
      obtain ⟨rfl, hnm⟩ := h3 rfl
      obtain ⟨p1, p2, p3, -, p5⟩ := prim_free (name_free hnm primWords (by decide))
      have hres : reservedB nm = false := by unfold nameB at hnm; simp only [Bool.and_eq_true, Bool.not_eq_true'] at hnm; exact hnm.2
      refine ⟨1, fun f hf => ?_⟩
      obtain ⟨g, rfl⟩ : ∃ g, f = g + 1 := ⟨f - 1, by omega⟩
      rw [pLev, pPrim, see_isT hS, see_isT hS, see_isT hS, see_take hS (kW _), s1, s2]
      simp only [tkW, p1, p2, p3, p5, hres, Bool.false_eq_true, if_false]
      rfl
    rw [if_neg e3] at hS ⊢
    by_cases e4 : op = 4
    · subst e4
      rw [if_pos rfl] at hS ⊢
      obtain ⟨rfl, a, b⟩ := h4 (by decide)
      have hm : mostP 4 = 0 := by decide
      obtain rfl : n = 0 := by omega
      have hl : ks.length = 1 := by have : arityP 4 = 1 := by decide
                                    omega
      have hks := kids_one hl
      have hmem : kid ks 0 ∈ ks := kid_mem (by omega)
      generalize kid ks 0 = y at *
      subst hks
      have S1 : (L.map strip).drop i = tkS 40 :: (tkW [110, 111, 116] :: (ftok d y ++ (tkS 41 :: rest))) := by rw [hS]; simp [List.append_assoc]
      obtain ⟨-, -, -, S2⟩ := see S1
      obtain ⟨-, -, -, S3⟩ := see S2
      have S4 := see_at S3
      have hp := ih y hmem _ _ S3
      obtain ⟨k0, r0, e0, nt⟩ := first_fmt d y (hk y hmem)
      have hnn : isT L (i + 1 + 1) [110, 111, 116] = false := by rw [e0] at S3; rw [see_isT S3]; exact nt
      have hf : freeT (tk L (i + 1 + 1 + (ftok d y).length)).text = true := by rw [(see S4).2.1]; decide
      obtain ⟨a1, b1, c1, d1, eo⟩ := free_all hf
      have hx := ((((hp.one ch_sum a1).rel_one b1).not_off hnn).not_on (by rw [see_isT S2]; decide) (see_take S2 (by decide)))
      have := prim_paren S1 (((hx.one ch_and c1).one ch_xor d1).one ch_or eo) S4
      have hq : i + ([tkS 40, tkW [110, 111, 116]] ++ ftok d y ++ [tkS 41]).length = i + 1 + 1 + (ftok d y).length + 1 := by simp only [List.length_append, List.length_cons, List.length_nil]; omega
      rw [hq]
      exact this
    rw [if_neg e4] at hS ⊢
    by_cases e5 : infixB op = true
    · rw [if_pos e5] at hS ⊢
      have e5' : 5 ≤ op ∧ op ≤ 12 := by unfold infixB at e5; simpa using e5
      obtain ⟨rfl, a, b⟩ := h4 e3
      have hm : mostP op = 0 := by unfold mostP; rw [if_neg (by omega), if_neg (by omega), if_neg (by omega)]
      obtain rfl : n = 0 := by omega
      have hl : ks.length = 2 := by
        have : arityP op = 2 := by
          unfold arityP
          rw [if_neg (by omega), if_neg (by omega), if_neg (by omega), if_pos (by omega)]
        omega
      have hks := kids_two hl
      have hm1 : kid ks 0 ∈ ks := kid_mem (by omega)
      have hm2 : kid ks 1 ∈ ks := kid_mem (by omega)
      generalize kid ks 0 = y at *
      generalize kid ks 1 = z at *
      subst hks
      have S1 : (L.map strip).drop i = tkS 40 :: (ftok d y ++ (tkOp op :: (ftok d z ++ (tkS 41 :: rest)))) := by rw [hS]; simp [List.append_assoc]
      obtain ⟨-, -, -, S2⟩ := see S1
      have S3 := see_at S2
      obtain ⟨-, -, -, S4⟩ := see S3
      have S5 := see_at S4
      have hp := ih y hm1 _ _ S2
      have hq := ih z hm2 _ _ S4
      obtain ⟨k0, r0, e0, nt⟩ := first_fmt d y (hk y hm1)
      have hnn : isT L (i + 1) [110, 111, 116] = false := by rw [e0] at S2; rw [see_isT S2]; exact nt
      obtain ⟨k1, r1, ez, nt1⟩ := first_fmt d z (hk z hm2)
      have hn1 : isT L (i + 1 + (ftok d y).length + 1) [110, 111, 116] = false := by
        have S4' := S4
        rw [ez] at S4'
        rw [see_isT S4']
        exact nt1
      have hf : freeT (tk L (i + 1 + (ftok d y).length + 1 + (ftok d z).length)).text = true := by rw [(see S5).2.1]; decide
      obtain ⟨a1, b1, c1, d1, eo⟩ := free_all hf
      have htx : (tk L (i + 1 + (ftok d y).length)).text = wordP op := (see S3).2.1
      have htk : takeI L (i + 1 + (ftok d y).length) = i + 1 + (ftok d y).length + 1 := see_take S3 (by unfold tkOp; simp only []; split <;> decide)
      have key : Ok L .expr (i + 1) (.mk op 0 [] [y, z]) (i + 1 + (ftok d y).length + 1 + (ftok d z).length) la := by
        have hop : op = 5 ∨ op = 6 ∨ op = 7 ∨ op = 8 ∨ op = 9 ∨ op = 10 ∨ op = 11 ∨ op = 12 := by omega
        have zs := (hq.one ch_sum a1)
        have zr := zs.rel_one b1
        have zn := zr.not_off hn1
        have za := zn.one ch_and c1
        have zx := za.one ch_xor d1
        rcases hop with rfl | rfl | rfl | rfl | rfl | rfl | rfl | rfl
        · have ys := (((hp.one ch_sum (by rw [htx]; decide)).rel_one (by rw [htx]; decide)).not_off hnn)
          have := ((ys.two ch_and (by rw [htx]; decide) htk zn c1).one ch_xor d1).one ch_or eo
          rw [htx] at this
          exact this
        · have ys := (((((hp.one ch_sum (by rw [htx]; decide)).rel_one (by rw [htx]; decide)).not_off hnn).one ch_and (by rw [htx]; decide)).one ch_xor (by rw [htx]; decide))
          have := ys.two ch_or (by rw [htx]; decide) htk zx eo
          rw [htx] at this
          exact this
        · have ys := ((((hp.one ch_sum (by rw [htx]; decide)).rel_one (by rw [htx]; decide)).not_off hnn).one ch_and (by rw [htx]; decide))
          have := (ys.two ch_xor (by rw [htx]; decide) htk za d1).one ch_or eo
          rw [htx] at this
          exact this
        · have ys := hp.one ch_sum (by rw [htx]; decide)
          have := ((((ys.rel_two (by rw [htx]; decide) htk zs).not_off hnn).one ch_and c1).one ch_xor d1).one ch_or eo
          rw [htx] at this
          exact this
        · have ys := hp.one ch_sum (by rw [htx]; decide)
          have := ((((ys.rel_two (by rw [htx]; decide) htk zs).not_off hnn).one ch_and c1).one ch_xor d1).one ch_or eo
          rw [htx] at this
          exact this
        · have ys := hp.one ch_sum (by rw [htx]; decide)
          have := ((((ys.rel_two (by rw [htx]; decide) htk zs).not_off hnn).one ch_and c1).one ch_xor d1).one ch_or eo
          rw [htx] at this
          exact this
        · have := (((((hp.two ch_sum (by rw [htx]; decide) htk hq a1).rel_one b1).not_off hnn).one ch_and c1).one ch_xor d1).one ch_or eo
          rw [htx] at this
          exact this
        · have := (((((hp.two ch_sum (by rw [htx]; decide) htk hq a1).rel_one b1).not_off hnn).one ch_and c1).one ch_xor d1).one ch_or eo
          rw [htx] at this
          exact this
      have := prim_paren S1 key S5
      have hq : i + ([tkS 40] ++ ftok d y ++ [tkOp op] ++ ftok d z ++ [tkS 41]).length = i + 1 + (ftok d y).length + 1 + (ftok d z).length + 1 := by simp only [List.length_append, List.length_cons, List.length_nil]; omega
      rw [hq]
      exact this
    rw [if_neg e5] at hS ⊢
    have e6 : 13 ≤ op := by
      unfold infixB at e5
      simp only [decide_eq_true_eq] at e5
      omega
    obtain ⟨rfl, a, b⟩ := h4 e3
    have S1 : (L.map strip).drop i = tkW (wordP op) :: (tkS 40 :: (argsT d true ks ++ ((if timedB op then [tkS 44, tkN n] else []) ++ (tkS 41 :: rest)))) := by rw [hS, argsT_all]; simp [List.append_assoc]
    obtain ⟨-, t1, -, S2⟩ := see S1
    obtain ⟨-, -, -, S3⟩ := see S2
    have S4 := see_at S3
    have hcw : (wordP op == [40]) = false ∧ (wordP op == [116, 114, 117, 101]) = false ∧ (wordP op == [102, 97, 108, 115, 101]) = false ∧ callWords.contains (wordP op) = true ∧ operationP (wordP op) = op := by
      have hop : op = 13 ∨ op = 14 ∨ op = 15 ∨ op = 16 ∨ op = 17 ∨ op = 18 ∨ op = 19 ∨ op = 20 ∨ op = 21 ∨ op = 22 := by omega
      rcases hop with rfl | rfl | rfl | rfl | rfl | rfl | rfl | rfl | rfl | rfl
      all_goals decide
    obtain ⟨w1, w2, w3, w4, w5⟩ := hcw
    have hfree : ∃ k r, (if timedB op then [tkS 44, tkN n] else []) ++ (tkS 41 :: rest) = k :: r ∧ freeT k.2.1 = true := by
      cases timedB op
      · exact ⟨_, _, rfl, by decide⟩
      · exact ⟨_, _, rfl, by decide⟩
    obtain ⟨f0, h0⟩ := args_fmt (L := L) (d := d) (la := la) ks [] (i + 1 + 1) _ true rfl S3 hfree hk ih
    have hlen : (arityP op).toNat = ks.length := by omega
    refine ⟨f0 + 1, fun f hf => ?_⟩
    obtain ⟨g, rfl⟩ : ∃ g, f = g + 1 := ⟨f - 1, by omega⟩
    rw [pLev, pPrim, see_isT S1, see_isT S1, see_isT S1, see_take S1 (kW _), t1]
    simp only [tkW, w1, w2, w3, w4, w5, Bool.false_eq_true, if_false, if_true]
    rw [pCall, need_see S2, hlen, h0 g (by omega)]
    show (if timedB op = true then _ else _) = _
    cases ht : timedB op with
    | false =>
      rw [ht] at S4
      have hm : mostP op = 0 := by
        unfold timedB at ht
        simp only [decide_eq_false_iff_not] at ht
        unfold mostP; rw [if_neg (by omega), if_neg (by omega), if_neg (by omega)]
      obtain rfl : n = 0 := by omega
      rw [if_neg (by decide), pLast, need_see S4, argsT_all]
      simp [Nat.add_assoc, Nat.add_comm, Nat.add_left_comm]
      omega
    | true =>
      rw [ht] at S4
      have hm : mostP op = 500 := by
        unfold timedB at ht
        simp only [decide_eq_true_eq] at ht
        unfold mostP; rw [if_neg (by omega), if_neg (by omega), if_pos (by omega)]
      have S5 : (L.map strip).drop (i + 1 + 1 + (argsT d true ks).length) = tkS 44 :: (tkN n :: (tkS 41 :: rest)) := S4
      obtain ⟨-, -, -, S6⟩ := see S5
      obtain ⟨u1, u2, u3, S7⟩ := see S6
      rw [if_pos rfl, need_see S5, u1]
      show (if (2 : Int) = 2 then _ else _) = _
      rw [if_pos rfl, u3, pLast, see_take S6 (kN _), need_see S7]
      show some (Except.ok (Ex.mk op n [] ([] ++ ks), _, if 500 < n ∧ la < 0 then _ else la)) = _
      rw [if_neg (by omega), argsT_all]
      simp [Nat.add_assoc, Nat.add_comm, Nat.add_left_comm]
      omega
/-- Parse reads back what Format wrote. -/
theorem parse_fmt {x : Ex} (hv : validP x = true) (hl : (fmtG 16 x).length ≤ 120) : parseP (fmtG 16 x) = (x, 0, 0) := by
  have hok := valid_ok hv
  obtain ⟨l, h1, h2⟩ := toks_fmt hok
  have hS : ((l ++ [endTok (fmtG 16 x)]).map strip).drop 0 = ftok 16 x ++ [(0, [], 0)] := by
    rw [List.drop_zero, List.map_append, h2]; rfl
  obtain ⟨k0, r0, e0, nt⟩ := first_fmt 16 x hok
  have hE := see_at hS
  have hp := prim_fmt 16 x 0 _ (-1) hok hS
  have hx := hp.up (by rw [e0] at hS; rw [see_isT hS]; exact nt) (by rw [(see hE).2.1]; decide)
  obtain ⟨f0, h0⟩ := hx
  refine parseP_any (f := f0) ?_
  unfold parseF
  rw [if_neg (by omega), h1]
  simp only [h0 f0 (Nat.le_refl _)]
  unfold endP
  rw [(see hE).1, if_neg (by decide), if_neg (by decide), if_pos hv]
end Go.Proofs.YtcikenlflcofbaaGreatDoor
