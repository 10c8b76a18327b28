/-
  The plain law of the texts: the line of a good event reads as that event; the text of a list reads as the list. No program is run here.
-/
import Derived.Test.YtcoablindoknpaaDoorParse
namespace Go.Proofs.YtcoablindoknpaaDoor
open Go.RowKit

theorem index_hit {c : UInt8} : ∀ {a b : List UInt8}, c ∉ a → Lib.index (a ++ c :: b) [c] = (a.length : Int)
  | [], b, _ => by simp [Lib.index, List.isPrefixOf]
  | x :: a, b, h => by
    have hx : (c == x) = false := by rw [beq_eq_false_iff_ne]; intro e; exact h (by simp [e])
    have ih := index_hit (c := c) (a := a) (b := b) (fun hm => h (List.mem_cons_of_mem _ hm))
    rw [List.cons_append, Lib.index, ih]
    have hne : ((a.length : Int) == -1) = false := by rw [beq_eq_false_iff_ne]; omega
    simp [List.isPrefixOf, hx, hne]
theorem index_miss {c : UInt8} : ∀ {a : List UInt8}, c ∉ a → Lib.index a [c] = -1
  | [], _ => by simp [Lib.index]
  | x :: a, h => by
    have hx : (c == x) = false := by rw [beq_eq_false_iff_ne]; intro e; exact h (by simp [e])
    have ih := index_miss (c := c) (a := a) (fun hm => h (List.mem_cons_of_mem _ hm))
    rw [Lib.index, ih]
    simp [List.isPrefixOf, hx]
theorem cut_hit {c : UInt8} {a b : List UInt8} (h : c ∉ a) : Lib.cut (a ++ c :: b) [c] = (a, b, true) := by
  unfold Lib.cut
  rw [index_hit h, if_pos (by omega)]
  simp
theorem cut_miss {c : UInt8} {a : List UInt8} (h : c ∉ a) : Lib.cut a [c] = (a, [], false) := by
  unfold Lib.cut
  rw [index_miss h, if_neg (by omega)]
/-- What a cut says. -/
theorem cut_cases (c : UInt8) : ∀ (t : List UInt8), (∃ a b, t = a ++ c :: b ∧ c ∉ a) ∨ c ∉ t
  | [] => .inr (by simp)
  | x :: t => by
    by_cases hx : x = c
    · exact .inl ⟨[], t, by simp [hx], by simp⟩
    · rcases cut_cases c t with ⟨a, b, rfl, h⟩ | h
      · exact .inl ⟨x :: a, b, rfl, by simp only [List.mem_cons, not_or]; exact ⟨fun e => hx e.symm, h⟩⟩
      · exact .inr (by simp only [List.mem_cons, not_or]; exact ⟨fun e => hx e.symm, h⟩)

theorem dec_all (u : Nat) : (Lib.decDigits u).all digB = true := by
  induction u using Nat.strongRecOn with
  | _ u ih =>
  by_cases h : u < 10
  · rw [Lib.decDigits_one h]
    simp only [List.all_cons, List.all_nil, Bool.and_true, digB, decide_eq_true_eq, UInt8.toNat_ofNat']
    omega
  · rw [Lib.decDigits, dif_neg h, List.all_append, ih (u / 10) (by omega)]
    simp only [List.all_cons, List.all_nil, Bool.and_true, Bool.true_and, digB, decide_eq_true_eq, UInt8.toNat_ofNat']
    omega
theorem dec_val (u : Nat) : numV (Lib.decDigits u) = u := by
  induction u using Nat.strongRecOn with
  | _ u ih =>
  by_cases h : u < 10
  · rw [Lib.decDigits_one h]
    simp only [numV, List.foldl_cons, List.foldl_nil, UInt8.toNat_ofNat']
    omega
  · rw [Lib.decDigits, dif_neg h, numV_snoc, ih (u / 10) (by omega), UInt8.toNat_ofNat']
    omega
theorem dec_ne (u : Nat) : Lib.decDigits u ≠ [] := by
  intro h
  have := Lib.decDigits_length u
  rw [h] at this
  have := Lib.nDigits_pos u
  simp at *
  omega
theorem not_dig {c : UInt8} {l : List UInt8} (h : l.all digB = true) (hc : digB c = false) : c ∉ l := by
  intro hm
  have := List.all_eq_true.1 h c hm
  rw [hc] at this
  cases this
theorem itoa_dec {n : Int} (h : 0 ≤ n) : Lib.itoa n = Lib.decDigits n.toNat := by unfold Lib.itoa; rw [if_neg (by omega)]
theorem numP_itoa {n : Int} (h0 : 0 ≤ n) (h1 : n < 10000000000) : numP (Lib.itoa n) = (n, true) := by
  have hl := itoa_len 9 n h0 (by omega)
  rw [itoa_dec h0] at hl ⊢
  have := numP_ok (dec_ne n.toNat) (by omega) (dec_all n.toNat)
  rw [this, dec_val, Int.toNat_of_nonneg h0]
theorem itoa_dig {n : Int} (h : 0 ≤ n) : (Lib.itoa n).all digB = true := by rw [itoa_dec h]; exact dec_all _

theorem evP_line {e : Ev} (hg : goodB e = true) : evP (lineS e) = some e := by
  obtain ⟨⟨a1, a2⟩, ⟨a3, a4⟩, ⟨a5, a6⟩, a7, a8⟩ := good_bounds hg
  have hl : lineS e = Lib.itoa e.time ++ 32 :: (Lib.itoa e.device ++ 46 :: (Lib.itoa e.signal ++ 32 :: ((if e.value then [111, 110] else [111, 102, 102]) ++ (if e.quality = 0 then [] else [32, 63] ++ Lib.itoa e.quality)))) := by
    simp [lineS]
  have k1 := cut_hit (c := 32) (b := Lib.itoa e.device ++ 46 :: (Lib.itoa e.signal ++ 32 :: ((if e.value then [111, 110] else [111, 102, 102]) ++ (if e.quality = 0 then [] else [32, 63] ++ Lib.itoa e.quality)))) (not_dig (itoa_dig a1) (c := 32) (by decide))
  have k2 := cut_hit (c := 46) (b := Lib.itoa e.signal ++ 32 :: ((if e.value then [111, 110] else [111, 102, 102]) ++ (if e.quality = 0 then [] else [32, 63] ++ Lib.itoa e.quality))) (not_dig (itoa_dig a3) (c := 46) (by decide))
  have k3 := cut_hit (c := 32) (b := (if e.value then [111, 110] else [111, 102, 102]) ++ (if e.quality = 0 then [] else [32, 63] ++ Lib.itoa e.quality)) (not_dig (itoa_dig a5) (c := 32) (by decide))
  have n1 := numP_itoa a1 (by omega)
  have n2 := numP_itoa a3 (by omega)
  have n3 := numP_itoa a5 (by omega)
  have n4 := numP_itoa a7 (by omega)
  have k4 : Lib.cut ((if e.value then [111, 110] else [111, 102, 102]) ++ (if e.quality = 0 then [] else [32, 63] ++ Lib.itoa e.quality)) [32, 63] = ((if e.value then [111, 110] else [111, 102, 102]), (if e.quality = 0 then [] else Lib.itoa e.quality), decide (e.quality ≠ 0)) := by
    generalize Lib.itoa e.quality = q
    by_cases hq : e.quality = 0
    · simp only [hq, if_true]
      cases e.value <;> simp [Lib.cut, Lib.index, List.isPrefixOf]
    · simp only [hq, if_false]
      cases e.value <;> simp [Lib.cut, Lib.index, List.isPrefixOf, hq]
  have hP : evP (lineS e) = evOfParts (e.time, true) (e.device, true) (e.signal, true) e.value (e.quality, true) (lineS e) := by
    unfold evP
    simp only [hl ▸ k1, k2, k3, k4, n1, n2, n3]
    congr 1
    · cases e.value <;> decide
    · by_cases hq : e.quality = 0
      · simp [hq]
      · simp [hq, n4]
  rw [hP]
  exact (hid_parts e.time e.device e.signal e.value e.quality true true true true (lineS e)).2.2.2 rfl hg rfl
theorem evP_sound {s : List UInt8} {e : Ev} (h : evP s = some e) : goodB e = true ∧ lineS e = s := by
  have key : ∀ t d g v q, evOfParts t d g v q s = some e → goodB e = true ∧ lineS e = s := by
    intro t d g v q h
    unfold evOfParts at h
    split at h
    · rename_i hc
      cases h
      exact ⟨hc.2.2.2.2.1, hc.2.2.2.2.2⟩
    · cases h
  exact key _ _ _ _ _ h
theorem line_no_lf {e : Ev} (hg : goodB e = true) : (10 : UInt8) ∉ lineS e := by
  obtain ⟨⟨a1, a2⟩, ⟨a3, a4⟩, ⟨a5, a6⟩, a7, a8⟩ := good_bounds hg
  have d1 := not_dig (itoa_dig a1) (c := 10) (by decide)
  have d2 := not_dig (itoa_dig a3) (c := 10) (by decide)
  have d3 := not_dig (itoa_dig a5) (c := 10) (by decide)
  have d4 := not_dig (itoa_dig a7) (c := 10) (by decide)
  simp only [lineS, List.mem_append, List.mem_cons, List.not_mem_nil, or_false, not_or]
  refine ⟨⟨⟨⟨⟨⟨⟨d1, by decide⟩, d2⟩, by decide⟩, d3⟩, by decide⟩, ?_⟩, ?_⟩
  · split <;> decide
  · split
    · simp
    · simp [d4]
theorem parse_fmt : ∀ (es : List Ev) (f : Nat) (l : List Ev) (n : Int), es.length < f → (∀ e ∈ es, goodB e = true) → parseF f l n (fmtS es) = (l ++ es, 0, 0)
  | [], f + 1, l, n, _, _ => by simp [fmtS, parseF]
  | e :: es, f + 1, l, n, hf, hg => by
    have hge := hg e (by simp)
    have ht : fmtS (e :: es) = lineS e ++ 10 :: fmtS es := by simp [fmtS]
    have hc := cut_hit (c := 10) (b := fmtS es) (line_no_lf hge)
    rw [ht, parseF_step (e := e) (by simp) (by rw [hc]) (by rw [hc]; exact evP_line hge), hc]
    rw [parse_fmt es f (l ++ [e]) (n + 1) (by simpa using hf) (fun x hx => hg x (by simp [hx]))]
    simp
theorem parse_format (es : List Ev) (h : allGoodB es = true) : parseP (formatS es) = (es, 0, 0) := by
  have hf : formatS es = fmtS es := by simp [formatS, h]
  have hg : ∀ e ∈ es, goodB e = true := by unfold allGoodB at h; exact List.all_eq_true.1 h
  have hlen : ∀ es : List Ev, es.length ≤ (fmtS es).length := by
    intro es
    induction es with
    | nil => simp
    | cons e es ih =>
      have ht : fmtS (e :: es) = lineS e ++ 10 :: fmtS es := by simp [fmtS]
      rw [ht, List.length_append, List.length_cons, List.length_cons]
      omega
  unfold parseP
  rw [hf, parse_fmt es _ [] 0 (by have := hlen es; omega) hg]
  simp
theorem parse_empty (es : List Ev) (h : allGoodB es = false) : parseP (formatS es) = ([], 0, 0) := by
  have hf : formatS es = [] := by simp [formatS, h]
  rw [hf]
  rfl
theorem parse_back : ∀ (f : Nat) (l : List Ev) (n : Int) (t : List UInt8) (m : List Ev) (a : Int), t.length < f → parseF f l n t = (m, a, 0) → ∃ es, m = l ++ es ∧ t = fmtS es ∧ (∀ e ∈ es, goodB e = true)
  | f + 1, l, n, t, m, a, hf, h => by
    by_cases ht : t = []
    · subst ht
      rw [parseF_nil] at h
      cases h
      exact ⟨[], by simp, by simp [fmtS], by simp⟩
    rcases cut_cases 10 t with ⟨x, r, rfl, hx⟩ | hx
    · have hc := cut_hit (c := 10) (b := r) hx
      cases he : evP x with
      | none =>
        rw [parseF_bad2 ht (by rw [hc]; exact he)] at h
        cases h
      | some e =>
        rw [parseF_step (e := e) ht (by rw [hc]) (by rw [hc]; exact he), hc] at h
        obtain ⟨es, rfl, rfl, hg⟩ := parse_back f (l ++ [e]) (n + 1) r m a (by simp at hf; omega) h
        obtain ⟨h1, rfl⟩ := evP_sound he
        refine ⟨e :: es, by simp, by simp [fmtS], ?_⟩
        intro y hy
        rcases List.mem_cons.1 hy with rfl | hy
        · exact h1
        · exact hg y hy
    · rw [parseF_bad1 ht (by rw [cut_miss hx])] at h
      cases h
theorem format_parse {t : List UInt8} {m : List Ev} {a : Int} (h : parseP t = (m, a, 0)) : formatS m = t := by
  obtain ⟨es, hm, ht, hg⟩ := parse_back _ _ _ _ _ _ (Nat.lt_succ_self _) h
  rw [List.nil_append] at hm
  subst hm
  have : allGoodB m = true := by unfold allGoodB; rw [List.all_eq_true]; exact hg
  unfold formatS
  rw [if_pos this]
  exact ht.symm
end Go.Proofs.YtcoablindoknpaaDoor
