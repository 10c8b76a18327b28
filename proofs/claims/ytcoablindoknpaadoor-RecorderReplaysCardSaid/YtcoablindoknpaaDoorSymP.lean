/-
  The merge in place, plain. No program is run here.
-/
import Derived.Test.YtcoablindoknpaaDoorRot
namespace Go.Proofs.YtcoablindoknpaaDoor
open Go.RowKit

theorem at_append (x y : List Ev) (i : Nat) : at_ (x ++ y) i = if i < x.length then at_ x i else at_ y (i - x.length) := by
  unfold at_
  rw [List.getElem?_append]
  split <;> rfl
theorem at_take (l : List Ev) (n i : Nat) (h : i < n) : at_ (l.take n) i = at_ l i := by
  unfold at_
  rw [List.getElem?_take, if_pos h]
theorem at_drop (l : List Ev) (n i : Nat) : at_ (l.drop n) i = at_ l (n + i) := by
  unfold at_
  rw [List.getElem?_drop]
theorem mem_at {l : List Ev} {x : Ev} (h : x ∈ l) : ∃ i, i < l.length ∧ at_ l i = x := by
  obtain ⟨i, hi⟩ := List.getElem?_of_mem h
  exact ⟨i, (List.getElem?_eq_some_iff.1 hi).1, at_eq hi⟩

/-- Two blocks change places, of which the second precedes the first. -/
theorem seg_rot {es es' : List Ev} {a m b : Nat} (h1 : a ≤ m) (h2 : m ≤ b) (h3 : b ≤ es.length) (hl : es'.length = es.length) (hat : ∀ p, at_ es' p = rotF es a m b p) (hb : ∀ u v, a ≤ u → u < m → m ≤ v → v < b → beforeB (at_ es v) (at_ es u) = true) : Seg es es' a b := by
  refine ⟨hl, fun i hi => ?_, fun i h4 h5 h6 => ?_, ?_⟩
  · rw [hat, rotF, if_neg (by omega), if_neg (by omega)]
  · rw [hat, rotF]
    by_cases e : a ≤ i ∧ i < a + (b - m)
    · exact ⟨i + (m - a), by omega, by omega, by omega, by rw [if_pos e]⟩
    · exact ⟨i - (b - m), by omega, by omega, by omega, by rw [if_neg e, if_pos (by omega)]⟩
  · have e0 : es = es.take a ++ ((es.drop a).take (m - a) ++ ((es.drop m).take (b - m) ++ es.drop b)) := by
      conv => lhs; rw [← List.take_append_drop a es, ← List.take_append_drop (m - a) (es.drop a), List.drop_drop, show a + (m - a) = m by omega, ← List.take_append_drop (b - m) (es.drop m), List.drop_drop, show m + (b - m) = b by omega]
    have e1 : es' = es.take a ++ ((es.drop m).take (b - m) ++ ((es.drop a).take (m - a) ++ es.drop b)) := by
      refine list_ext (by simp; omega) fun i hi => ?_
      have l1 : (es.take a).length = a := by simp; omega
      have l2 : ((es.drop m).take (b - m)).length = b - m := by simp; omega
      have l3 : ((es.drop a).take (m - a)).length = m - a := by simp; omega
      rw [hat, rotF, at_append, l1, at_append, l2, at_append, l3]
      by_cases c1 : i < a
      · rw [if_neg (by omega), if_neg (by omega), if_pos c1, at_take _ _ _ c1]
      · rw [if_neg c1]
        by_cases c2 : i - a < b - m
        · rw [if_pos (by omega), if_pos c2, at_take _ _ _ c2, at_drop, show i + (m - a) = m + (i - a) by omega]
        · rw [if_neg (by omega), if_neg c2]
          by_cases c3 : i - a - (b - m) < m - a
          · rw [if_pos (by omega), if_pos c3, at_take _ _ _ c3, at_drop, show i - (b - m) = a + (i - a - (b - m)) by omega]
          · rw [if_neg (by omega), if_neg c3, at_drop, show b + (i - a - (b - m) - (m - a)) = i by omega]
    rw [e1]
    conv => rhs; rw [e0]
    refine (st_rot _ _ _ _ fun u hu v hv => ?_).symm
    obtain ⟨i, hi, rfl⟩ := mem_at hu
    obtain ⟨j, hj, rfl⟩ := mem_at hv
    rw [List.length_take, List.length_drop] at hi hj
    rw [at_take _ _ _ (by omega), at_drop, at_take _ _ _ (by omega), at_drop]
    exact hb _ _ (by omega) (by omega) (by omega) (by omega)

/-- Where the search in the second run ends. -/
structure Find1 (es : List Ev) (a m b i j : Nat) : Prop where
  lo : m ≤ i
  hi : j ≤ b
  le : i ≤ j
  pre : ∀ p, m ≤ p → p < i → beforeB (at_ es p) (at_ es a) = true
  suf : ∀ p, j ≤ p → p < b → beforeB (at_ es p) (at_ es a) = false
theorem find1_yes {es : List Ev} {a m b i j h : Nat} (hF : Find1 es a m b i j) (hs : SortedR es m b) (h1 : i ≤ h) (h2 : h < j) (hb : beforeB (at_ es h) (at_ es a) = true) : Find1 es a m b (h + 1) j := by
  have := hF.lo; have := hF.hi
  refine ⟨by omega, hF.hi, by omega, fun p h3 h4 => ?_, hF.suf⟩
  by_cases e : p = h
  · rw [e]; exact hb
  · exact le_before (hs p h h3 (by omega) (by omega)) hb
theorem find1_no {es : List Ev} {a m b i j h : Nat} (hF : Find1 es a m b i j) (hs : SortedR es m b) (h1 : i ≤ h) (h2 : h < j) (hb : beforeB (at_ es h) (at_ es a) = false) : Find1 es a m b i h := by
  have := hF.lo; have := hF.hi
  refine ⟨hF.lo, by omega, h1, hF.pre, fun p h3 h4 => ?_⟩
  by_cases e : p = h
  · rw [e]; exact hb
  · rw [← Bool.not_eq_true]
    intro hp
    have := le_before (hs h p (by omega) (by omega) h4) hp
    rw [hb] at this
    cases this
/-- Where the search in the first run ends. -/
structure Find2 (es : List Ev) (a m i j : Nat) : Prop where
  lo : a ≤ i
  hi : j ≤ m
  le : i ≤ j
  pre : ∀ p, a ≤ p → p < i → beforeB (at_ es m) (at_ es p) = false
  suf : ∀ p, j ≤ p → p < m → beforeB (at_ es m) (at_ es p) = true
theorem find2_no {es : List Ev} {a m i j h : Nat} (hF : Find2 es a m i j) (hs : SortedR es a m) (h1 : i ≤ h) (h2 : h < j) (hb : beforeB (at_ es m) (at_ es h) = false) : Find2 es a m (h + 1) j := by
  have := hF.lo; have := hF.hi
  refine ⟨by omega, hF.hi, by omega, fun p h3 h4 => ?_, hF.suf⟩
  by_cases e : p = h
  · rw [e]; exact hb
  · rw [← Bool.not_eq_true]
    intro hp
    have := before_le hp (hs p h h3 (by omega) (by omega))
    rw [hb] at this
    cases this
theorem find2_yes {es : List Ev} {a m i j h : Nat} (hF : Find2 es a m i j) (hs : SortedR es a m) (h1 : i ≤ h) (h2 : h < j) (hb : beforeB (at_ es m) (at_ es h) = true) : Find2 es a m i h := by
  have := hF.lo; have := hF.hi
  refine ⟨hF.lo, by omega, h1, hF.pre, fun p h3 h4 => ?_⟩
  by_cases e : p = h
  · rw [e]; exact hb
  · exact before_le hb (hs h p (by omega) (by omega) h4)
/-- The symmetric search: n is the sum of the middle and of m. -/
structure Find3 (es : List Ev) (n s0 r0 s r : Nat) : Prop where
  lo : s0 ≤ s
  hi : r ≤ r0
  le : s ≤ r
  pre : ∀ c, s0 ≤ c → c < s → beforeB (at_ es (n - 1 - c)) (at_ es c) = false
  suf : ∀ c, r ≤ c → c < r0 → beforeB (at_ es (n - 1 - c)) (at_ es c) = true
theorem find3_no {es : List Ev} {n s0 r0 s r c a m b : Nat} (hF : Find3 es n s0 r0 s r) (h1 : SortedR es a m) (h2 : SortedR es m b) (g1 : a ≤ s0) (g2 : r0 ≤ m) (g3 : m + r0 ≤ n) (g4 : n ≤ b + s0) (h3 : s ≤ c) (h4 : c < r) (hb : beforeB (at_ es (n - 1 - c)) (at_ es c) = false) : Find3 es n s0 r0 (c + 1) r := by
  have := hF.lo; have := hF.hi
  refine ⟨by omega, hF.hi, by omega, fun p h5 h6 => ?_, hF.suf⟩
  by_cases e : p = c
  · rw [e]; exact hb
  · rw [← Bool.not_eq_true]
    intro hp
    have k1 := le_before (h2 (n - 1 - c) (n - 1 - p) (by omega) (by omega) (by omega)) hp
    have k2 := before_le k1 (h1 p c (by omega) (by omega) (by omega))
    rw [hb] at k2
    cases k2
theorem find3_yes {es : List Ev} {n s0 r0 s r c a m b : Nat} (hF : Find3 es n s0 r0 s r) (h1 : SortedR es a m) (h2 : SortedR es m b) (g1 : a ≤ s0) (g2 : r0 ≤ m) (g3 : m + r0 ≤ n) (g4 : n ≤ b + s0) (h3 : s ≤ c) (h4 : c < r) (hb : beforeB (at_ es (n - 1 - c)) (at_ es c) = true) : Find3 es n s0 r0 s c := by
  have := hF.lo; have := hF.hi
  refine ⟨hF.lo, by omega, h3, hF.pre, fun p h5 h6 => ?_⟩
  by_cases e : p = c
  · rw [e]; exact hb
  · have k1 := le_before (h2 (n - 1 - p) (n - 1 - c) (by omega) (by omega) (by omega)) hb
    exact before_le k1 (h1 c p (by omega) (by omega) (by omega))

/-- All in order but for what stands behind place k. -/
def AllFrom (es : List Ev) (a b k : Nat) : Prop := ∀ p q, a ≤ p → p < q → q < b → p ≠ k → leE (at_ es p) (at_ es q)
theorem allFrom_step {es : List Ev} {a b k : Nat} (h1 : a ≤ k) (h2 : k + 1 < b) (h3 : b ≤ es.length) (hA : AllFrom es a b k) (hb : beforeB (at_ es (k + 1)) (at_ es k) = true) : AllFrom ((es.set k (at_ es (k + 1))).set (k + 1) (at_ es k)) a b (k + 1) := by
  have hat : ∀ i, at_ ((es.set k (at_ es (k + 1))).set (k + 1) (at_ es k)) i = if i = k + 1 then at_ es k else if i = k then at_ es (k + 1) else at_ es i := by
    intro i
    rw [at_set _ _ _ _ (by rw [List.length_set]; omega), at_set _ _ _ _ (by omega)]
  intro p q hp hpq hq hne
  rw [hat p, hat q, if_neg hne]
  by_cases e1 : q = k + 1
  · rw [if_pos e1]
    by_cases e2 : p = k
    · rw [if_pos e2]; exact leE_of_before hb
    · rw [if_neg e2]; exact hA p k hp (by omega) (by omega) e2
  · rw [if_neg e1]
    by_cases e2 : p = k
    · rw [if_pos e2, if_neg (by omega)]; exact hA (k + 1) q (by omega) (by omega) hq (by omega)
    · rw [if_neg e2]
      by_cases e3 : q = k
      · rw [if_pos e3]; exact hA p (k + 1) hp (by omega) h2 e2
      · rw [if_neg e3]; exact hA p q hp hpq hq e2
theorem set_two (es : List Ev) (k : Nat) (x y : Ev) : (es.set k y).set (k + 1) x = (es.set (k + 1) x).set k y := List.set_comm _ _ (by omega)
/-- The first element goes to its place in the second run. -/
structure Ins1 (es : List Ev) (a b k : Nat) (cur : List Ev) : Prop where
  seg : Seg es cur a b
  all : AllFrom cur a b k
  me : at_ cur k = at_ es a
  rest : ∀ p, k < p → at_ cur p = at_ es p
theorem ins1_start {es : List Ev} {a b : Nat} (hs : SortedR es (a + 1) b) : Ins1 es a b a es := ⟨Seg.refl _ _ _, fun p q h1 h2 h3 h4 => hs p q (by omega) h2 h3, rfl, fun _ _ => rfl⟩
theorem ins1_step {es cur : List Ev} {a b k : Nat} (h : Ins1 es a b k cur) (h1 : a ≤ k) (h2 : k + 1 < b) (h3 : b ≤ es.length) (hb : beforeB (at_ es (k + 1)) (at_ es a) = true) : Ins1 es a b (k + 1) ((cur.set k (at_ cur (k + 1))).set (k + 1) (at_ cur k)) := by
  have hl := h.seg.len
  have hb' : beforeB (at_ cur (k + 1)) (at_ cur k) = true := by rw [h.me, h.rest _ (Nat.lt_succ_self _)]; exact hb
  have hsg := seg_adj (es := cur) (a := a) (b := b) (j := k + 1) (by omega) h2 (by omega) hb'
  rw [Nat.add_sub_cancel, ← set_two] at hsg
  have hat : ∀ i, at_ ((cur.set k (at_ cur (k + 1))).set (k + 1) (at_ cur k)) i = if i = k + 1 then at_ cur k else if i = k then at_ cur (k + 1) else at_ cur i := by
    intro i
    rw [at_set _ _ _ _ (by rw [List.length_set]; omega), at_set _ _ _ _ (by omega)]
  exact ⟨h.seg.trans hsg, allFrom_step h1 h2 (by omega) h.all hb', by rw [hat, if_pos rfl, h.me], fun p hp => by rw [hat, if_neg (by omega), if_neg (by omega)]; exact h.rest p (by omega)⟩
theorem ins1_end {es cur : List Ev} {a b i : Nat} (h : Ins1 es a b (i - 1) cur) (_h1 : a < i) (hs : ∀ p, i ≤ p → p < b → beforeB (at_ es p) (at_ es a) = false) : SortedR cur a b := by
  intro p q hp hpq hq
  by_cases e : p = i - 1
  · rw [e, h.me, h.rest q (by omega)]
    exact hs q (by omega) hq
  · exact h.all p q hp hpq hq e
/-- The last element goes to its place in the first run. -/
structure Ins2 (es : List Ev) (a m k : Nat) (cur : List Ev) : Prop where
  seg : Seg es cur a (m + 1)
  all : AllBut cur a (m + 1) k
  me : at_ cur k = at_ es m
  rest : ∀ p, p < k → at_ cur p = at_ es p
theorem ins2_start {es : List Ev} {a m : Nat} (hs : SortedR es a m) : Ins2 es a m m es := ⟨Seg.refl _ _ _, allBut_of hs, rfl, fun _ _ => rfl⟩
theorem ins2_step {es cur : List Ev} {a m k : Nat} (h : Ins2 es a m k cur) (h1 : a < k) (h2 : k ≤ m) (h3 : m < es.length) (hb : beforeB (at_ es m) (at_ es (k - 1)) = true) : Ins2 es a m (k - 1) ((cur.set k (at_ cur (k - 1))).set (k - 1) (at_ cur k)) := by
  have hl := h.seg.len
  have hb' : beforeB (at_ cur k) (at_ cur (k - 1)) = true := by rw [h.me, h.rest _ (by omega)]; exact hb
  have hsg := seg_adj (es := cur) (a := a) (b := m + 1) (j := k) h1 (by omega) (by omega) hb'
  have hat : ∀ i, at_ ((cur.set k (at_ cur (k - 1))).set (k - 1) (at_ cur k)) i = if i = k - 1 then at_ cur k else if i = k then at_ cur (k - 1) else at_ cur i := by
    intro i
    rw [at_set _ _ _ _ (by rw [List.length_set]; omega), at_set _ _ _ _ (by omega)]
  exact ⟨h.seg.trans hsg, allBut_step h1 (by omega) (by omega) h.all hb', by rw [hat, if_pos rfl, h.me], fun p hp => by rw [hat, if_neg (by omega), if_neg (by omega)]; exact h.rest p (by omega)⟩
theorem ins2_end {es cur : List Ev} {a m i : Nat} (h : Ins2 es a m i cur) (hp : ∀ p, a ≤ p → p < i → beforeB (at_ es m) (at_ es p) = false) : SortedR cur a (m + 1) := by
  refine allBut_done h.all ?_
  by_cases e : i ≤ a
  · exact .inl e
  · right
    rw [h.me, h.rest (i - 1) (by omega)]
    exact hp (i - 1) (by omega) (by omega)

/-- Behind the rotation: two runs on either side of the middle, the left before the right. -/
structure Halves (es es1 : List Ev) (a b mid start en : Nat) : Prop where
  seg : Seg es es1 a b
  l1 : SortedR es1 a start
  l2 : SortedR es1 start mid
  r1 : SortedR es1 mid en
  r2 : SortedR es1 en b
  lr : ∀ p q, a ≤ p → p < mid → mid ≤ q → q < b → leE (at_ es1 p) (at_ es1 q)
theorem halves {es es1 : List Ev} {a m b mid s0 r0 s n en : Nat} (hF : Find3 es n s0 r0 s s) (h1 : SortedR es a m) (h2 : SortedR es m b) (hn : n = mid + m) (he : en = n - s) (ham : a < m) (_hmb : m < b) (_hmid1 : a ≤ mid) (hmid2 : mid < b)
    (hlb : b ≤ es.length) (hc : (m > mid ∧ s0 + b = n ∧ r0 = mid ∧ a ≤ s0) ∨ (m ≤ mid ∧ s0 = a ∧ r0 = m ∧ n ≤ b + a)) (hl : es1.length = es.length) (hat : ∀ p, at_ es1 p = rotF es s m en p) : Halves es es1 a b mid s en := by
  have g1 := hF.lo
  have g2 := hF.hi
  have hsm : s ≤ m := by omega
  have hem : m ≤ en := by omega
  have heb : en ≤ b := by omega
  have has : a ≤ s := by omega
  have hstrict : ∀ u v, s ≤ u → u < m → m ≤ v → v < en → beforeB (at_ es v) (at_ es u) = true := by
    intro u v k1 k2 k3 k4
    have hb := hF.suf s (Nat.le_refl _) (by omega)
    have k5 : beforeB (at_ es v) (at_ es s) = true := by
      by_cases e : v = n - 1 - s
      · rw [e]; exact hb
      · exact le_before (h2 v (n - 1 - s) k3 (by omega) (by omega)) hb
    by_cases e : u = s
    · rw [e]; exact k5
    · exact before_le k5 (h1 s u (by omega) (by omega) k2)
  have hle : ∀ u v, a ≤ u → u < s → en ≤ v → v < b → leE (at_ es u) (at_ es v) := by
    intro u v k1 k2 k3 k4
    have hb := hF.pre (s - 1) (by omega) (by omega)
    have k5 : leE (at_ es (s - 1)) (at_ es en) := by
      unfold leE
      rw [show en = n - 1 - (s - 1) by omega]
      exact hb
    have k6 : leE (at_ es u) (at_ es en) := by
      by_cases e : u = s - 1
      · rw [e]; exact k5
      · exact leE_trans (h1 u (s - 1) k1 (by omega) (by omega)) k5
    by_cases e : v = en
    · rw [e]; exact k6
    · exact leE_trans k6 (h2 en v (by omega) (by omega) k4)
  have r0' : ∀ p, p < s → at_ es1 p = at_ es p := fun p hp => by rw [hat, rotF, if_neg (by omega), if_neg (by omega)]
  have r1' : ∀ p, s ≤ p → p < mid → at_ es1 p = at_ es (p + (m - s)) := fun p hp hq => by rw [hat, rotF, if_pos (by omega)]
  have r2' : ∀ p, mid ≤ p → p < en → at_ es1 p = at_ es (p - (en - m)) := fun p hp hq => by rw [hat, rotF, if_neg (by omega), if_pos (by omega)]
  have r3' : ∀ p, en ≤ p → at_ es1 p = at_ es p := fun p hp => by rw [hat, rotF, if_neg (by omega), if_neg (by omega)]
  refine ⟨(seg_rot hsm hem (by omega) hl hat hstrict).wide has heb, ?_, ?_, ?_, ?_, ?_⟩
  · intro i j k1 k2 k3
    rw [r0' i (by omega), r0' j k3]
    exact h1 i j k1 k2 (by omega)
  · intro i j k1 k2 k3
    rw [r1' i k1 (by omega), r1' j (by omega) k3]
    exact h2 _ _ (by omega) (by omega) (by omega)
  · intro i j k1 k2 k3
    rw [r2' i k1 (by omega), r2' j (by omega) k3]
    exact h1 _ _ (by omega) (by omega) (by omega)
  · intro i j k1 k2 k3
    rw [r3' i k1, r3' j (by omega)]
    exact h2 i j (by omega) k2 k3
  · intro p q k1 k2 k3 k4
    by_cases c1 : p < s
    · rw [r0' p c1]
      by_cases c2 : q < en
      · rw [r2' q k3 c2]
        exact h1 p _ k1 (by omega) (by omega)
      · rw [r3' q (by omega)]
        exact hle p q k1 c1 (by omega) k4
    · rw [r1' p (by omega) k2]
      by_cases c2 : q < en
      · rw [r2' q k3 c2]
        exact leE_of_before (hstrict _ _ (by omega) (by omega) (by omega) (by omega))
      · rw [r3' q (by omega)]
        exact h2 _ _ (by omega) (by omega) k4
theorem halves_done {es es1 es2 es3 : List Ev} {a b mid start en : Nat} (h : Halves es es1 a b mid start en) (h2 : Seg es1 es2 a mid) (s2 : SortedR es2 a mid) (h3 : Seg es2 es3 mid b) (s3 : SortedR es3 mid b) (ha : a ≤ mid) (hb : mid ≤ b) (hl : b ≤ es.length) : Seg es es3 a b ∧ SortedR es3 a b := by
  have l1 := h.seg.len
  have l2 := h2.len
  refine ⟨(h.seg.trans (h2.wide (Nat.le_refl _) hb)).trans (h3.wide ha (Nat.le_refl _)), fun i j k1 k2 k3 => ?_⟩
  by_cases c1 : j < mid
  · rw [h3.out i (by omega), h3.out j (by omega)]
    exact s2 i j k1 k2 c1
  · by_cases c2 : mid ≤ i
    · exact s3 i j c2 k2 k3
    · obtain ⟨i', x1, x2, x3, x4⟩ := h2.src i k1 (by omega) (by omega)
      obtain ⟨j', y1, y2, y3, y4⟩ := h3.src j (by omega) k3 (by omega)
      rw [h3.out i (by omega), x4, y4, h2.out j' (by omega)]
      exact h.lr i' j' x1 x2 y1 y2
end Go.Proofs.YtcoablindoknpaaDoor
