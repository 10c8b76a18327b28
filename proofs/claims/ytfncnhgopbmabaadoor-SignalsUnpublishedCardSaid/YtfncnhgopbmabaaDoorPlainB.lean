/-
  Plain: what a configuration without errors tells of each subscription, and what becomes of it where a device publishes nothing any more.
-/
import Derived.Test.YtfncnhgopbmabaaDoorCheckP
namespace Go.Proofs.YtfncnhgopbmabaaDoor
open Go.RowKit

theorem same_eq {a b : ByteArray} : same a b = true ↔ a = b := by
  unfold same
  rw [beq_iff_eq]
  constructor
  · intro h
    rw [toList_data, toList_data] at h
    exact ByteArray.ext (Array.toList_inj.1 h)
  · rintro rfl; rfl

theorem check_zero {rs : List RelayM} : ∀ {n : Nat}, (checkUpto rs n).2 = 0 → AllZero (oneK rs) n
  | 0, _ => allZero_zero _
  | n + 1, h => by
    by_cases h0 : (checkUpto rs n).2 = 0
    · have ih := check_zero h0
      simp only [checkUpto, h0, if_true] at h
      by_cases h1 : oneK rs n = 0
      · exact allZero_succ ih h1
      · simp [h1] at h
    · simp [checkUpto, h0] at h
theorem firstNZ_all {f : Nat → Int} : ∀ {n : Nat}, firstNZ f n = 0 → AllZero f n
  | 0, _ => allZero_zero _
  | n + 1, h => by
    simp only [firstNZ] at h
    by_cases h0 : firstNZ f n = 0
    · rw [if_pos h0] at h
      exact allZero_succ (firstNZ_all h0) h
    · rw [if_neg h0] at h
      exact absurd h h0
theorem one_zero {rs : List RelayM} {i : Nat} {r : RelayM} (hr : rs[i]? = some r) (h : oneK rs i = 0) : ownE r = 0 ∧ AllZero (subK rs i) r.subs.length := by
  simp only [oneK, hr] at h
  by_cases h0 : ownE r = 0
  · simp only [h0, ne_eq, not_true, if_false] at h
    exact ⟨h0, firstNZ_all h⟩
  · simp [h0] at h
theorem own_zero {r : RelayM} (h : ownE r = 0) : dupB (r.outputs ++ r.inputs) = false ∧ AllZero (setK r.outputs r.sets) r.sets.length := by
  unfold ownE at h
  cases hd : dupB (r.outputs ++ r.inputs) with
  | true => simp [hd] at h
  | false =>
    simp only [hd, Bool.false_eq_true, if_false] at h
    by_cases h0 : setsE r.outputs r.sets = 0
    · exact ⟨rfl, firstNZ_all h0⟩
    · simp [h0] at h
/-- Each signal of a data set of a relay without errors is one of its outputs. -/
theorem out_of_own {r : RelayM} (h : ownE r = 0) {s j : Nat} {d : ByteArray × List ByteArray} {y : ByteArray} (hd : r.sets[s]? = some d) (hy : d.2[j]? = some y) : 0 ≤ idx (fun z => same z y) r.outputs := by
  have hs := (own_zero h).2 s (List.getElem?_eq_some_iff.1 hd).1
  rw [setK_eq hd] at hs
  have hj := firstNZ_all hs j (List.getElem?_eq_some_iff.1 hy).1
  simp only [sigE, hy] at hj
  cases hk : seen r.outputs r.outputs.length y with
  | false => simp [hk] at hj
  | true =>
    have := seen_idx r.outputs r.outputs.length y
    rw [List.take_length, hk] at this
    simpa using this.symm

/-- What a subscription without error denotes. -/
structure Denotes (rs : List RelayM) (i : Nat) (x : SubM) (d s j : Nat) (r : RelayM) (ds : ByteArray × List ByteArray) : Prop where
  relay : rs[d]? = some r
  other : (d : Int) ≠ (i : Int)
  dev : idx (fun r => same r.name x.device) rs = (d : Int)
  name : r.name = x.device
  set : r.sets[s]? = some ds
  setIdx : idx (fun d => same d.1 x.set) r.sets = (s : Int)
  setName : ds.1 = x.set
  pub : has (fun p => same p x.set) r.pubs = true
  item : ds.2[j]? = some x.signal
theorem find_ok {rs : List RelayM} {i k : Nat} {r0 : RelayM} {x : SubM} (hr : rs[i]? = some r0) (hx : r0.subs[k]? = some x) (h : subK rs i k = 0) :
    ∃ (d s j : Nat) (r : RelayM) (ds : ByteArray × List ByteArray), FindP rs (i : Int) (k : Int) = ((d : Int), (s : Int), (j : Int), 0) ∧ Denotes rs i x d s j r ds := by
  have hF : FindP rs (i : Int) (k : Int) = findP rs (i : Int) (idx (fun r => same r.name x.device) rs) x := by
    simp [FindP, hr, hx, show ¬ ((i : Int) < 0) by omega, show ¬ ((k : Int) < 0) by omega]
  unfold subK at h
  rw [hF] at h ⊢
  rcases idx_cases (fun r : RelayM => same r.name x.device) rs with ⟨e, -⟩ | ⟨d, r, e, hd, hnm, -⟩
  · rw [e] at h; simp [findP] at h
  rw [e] at h ⊢
  by_cases hdi : (d : Int) = (i : Int)
  · simp [findP, hdi, show ¬ ((i : Int) < 0) by omega] at h
  rcases idx_cases (fun q : ByteArray × List ByteArray => same q.1 x.set) r.sets with ⟨e2, -⟩ | ⟨s, ds, e2, hs, hsn, -⟩
  · simp [findP, hdi, show ¬ ((d : Int) < 0) by omega, hd, e2] at h
  cases hp : has (fun p => same p x.set) r.pubs with
  | false => simp [findP, hdi, show ¬ ((d : Int) < 0) by omega, hd, e2, show ¬ ((s : Int) < 0) by omega, hp] at h
  | true =>
    rcases idx_cases (fun q : ByteArray => same q x.signal) ds.2 with ⟨e3, -⟩ | ⟨j, y, e3, hj, hy, -⟩
    · simp [findP, hdi, show ¬ ((d : Int) < 0) by omega, hd, e2, show ¬ ((s : Int) < 0) by omega, hp, hs, e3] at h
    · refine ⟨d, s, j, r, ds, ?_, hd, hdi, e, same_eq.1 hnm, hs, e2, same_eq.1 hsn, hp, ?_⟩
      · simp [findP, hdi, show ¬ ((d : Int) < 0) by omega, hd, e2, show ¬ ((s : Int) < 0) by omega, hp, hs, e3, show ¬ ((j : Int) < 0) by omega]
      · rw [hj, same_eq.1 hy]

/-- A hit is among the readers. -/
theorem gone_mem {rs : List RelayM} {relay set : Int} {i k : Nat} {r : RelayM} (hr : rs[i]? = some r) (hk : k < r.subs.length) (h : hit rs relay set i k = true) : (i, k) ∈ gone rs relay set rs.length 0 := by
  unfold gone allL
  refine List.mem_append_left _ (List.mem_flatMap.2 ⟨i, List.mem_range.2 (List.getElem?_eq_some_iff.1 hr).1, ?_⟩)
  unfold rowL
  exact List.mem_map.2 ⟨k, List.mem_filter.2 ⟨List.mem_range.2 (by simp [subsLen, hr]; exact hk), h⟩, rfl⟩

/-- The configuration in which relay d publishes nothing. -/
def muted (rs : List RelayM) (d : Nat) : List RelayM := rs.modify d fun r => { r with pubs := [] }
theorem muted_len (rs : List RelayM) (d : Nat) : (muted rs d).length = rs.length := by simp [muted]
theorem muted_at (rs : List RelayM) (d k : Nat) : (muted rs d)[k]? = (rs[k]?).map fun r => if d = k then { r with pubs := [] } else r := by
  unfold muted
  rw [List.getElem?_modify]
  by_cases h : d = k
  · subst h; simp
  · simp [h]
theorem idx_map {α β : Type} (p : β → Bool) (f : α → β) (xs : List α) : idx p (xs.map f) = idx (fun x => p (f x)) xs := by
  unfold idx
  rw [List.findIdx?_map]
  rfl
theorem muted_idx (rs : List RelayM) (d : Nat) (s : ByteArray) : idx (fun r => same r.name s) (muted rs d) = idx (fun r => same r.name s) rs := by
  rw [← idx_map (fun n => same n s) (fun r : RelayM => r.name) (muted rs d), ← idx_map (fun n => same n s) (fun r : RelayM => r.name) rs]
  congr 1
  apply List.ext_getElem?
  intro k
  rw [List.getElem?_map, List.getElem?_map, muted_at, Option.map_map]
  congr 1
  funext r
  by_cases h : d = k <;> simp [h]
theorem muted_own {r : RelayM} (h : ownE r = 0) : ownE { r with pubs := [] } = 0 := by
  obtain ⟨h1, h2⟩ := own_zero h
  exact own_ok (r := { r with pubs := [] }) h1 h2 (allZero_zero _)
theorem muted_find {rs : List RelayM} {d i k : Nat} {r0 : RelayM} {x : SubM} (hr : rs[i]? = some r0) (hx : r0.subs[k]? = some x) (h : subK rs i k = 0) :
    subK (muted rs d) i k = if (FindP rs (i : Int) (k : Int)).1 = (d : Int) then 11 else 0 := by
  obtain ⟨d', s, j, r, ds, hF, D⟩ := find_ok hr hx h
  have hr' : (muted rs d)[i]? = some (if d = i then { r0 with pubs := [] } else r0) := by rw [muted_at, hr]; rfl
  have hx' : (if d = i then { r0 with pubs := [] } else r0 : RelayM).subs[k]? = some x := by by_cases h : d = i <;> simp [h, hx]
  have hF' : FindP (muted rs d) (i : Int) (k : Int) = findP (muted rs d) (i : Int) (idx (fun r => same r.name x.device) (muted rs d)) x := by
    simp [FindP, hr', hx', show ¬ ((i : Int) < 0) by omega, show ¬ ((k : Int) < 0) by omega]
  unfold subK
  rw [hF', muted_idx, D.dev, hF]
  have hd' : (muted rs d)[d']? = some (if d = d' then { r with pubs := [] } else r) := by rw [muted_at, D.relay]; rfl
  by_cases hdd : d = d'
  · subst hdd
    have e2 := D.setIdx
    have hn : has (fun p => same p x.set) ([] : List ByteArray) = false := by simp [has, idx]
    simp only [if_true] at hd'
    simp only [findP, show ¬ ((d : Int) < 0) by omega, D.other, if_false, Int.toNat_natCast, hd', e2, show ¬ ((s : Int) < 0) by omega, hn, if_true]
  · have hne : ¬ ((d' : Int) = (d : Int)) := by omega
    simp only [if_neg hdd] at hd'
    have hj : ¬ (idx (fun z => same z x.signal) ds.2 < 0) := by
      rcases idx_cases (fun z => same z x.signal) ds.2 with ⟨_, h2⟩ | ⟨j', _, e3, _⟩
      · have := h2 x.signal (List.mem_of_getElem? D.item)
        rw [same_eq.2 rfl] at this; cases this
      · rw [e3]; omega
    simp only [findP, show ¬ ((d' : Int) < 0) by omega, D.other, if_false, Int.toNat_natCast, hd', D.setIdx, show ¬ ((s : Int) < 0) by omega, D.pub, D.set, hj, hne, Bool.true_eq_false]
theorem muted_one {rs : List RelayM} {d i : Nat} (hi : i < rs.length) (h : AllZero (oneK rs) rs.length) : oneK (muted rs d) i = 0 ∨ oneK (muted rs d) i = 11 := by
  have hr := List.getElem?_eq_getElem hi
  obtain ⟨ho, hs⟩ := one_zero hr (h i hi)
  have hr' : (muted rs d)[i]? = some (if d = i then { rs[i] with pubs := [] } else rs[i]) := by rw [muted_at, hr]; rfl
  have ho' : ownE (if d = i then { rs[i] with pubs := [] } else rs[i]) = 0 := by
    by_cases h : d = i
    · rw [if_pos h]; exact muted_own ho
    · rw [if_neg h]; exact ho
  have hl : (if d = i then { rs[i] with pubs := [] } else rs[i] : RelayM).subs.length = rs[i].subs.length := by by_cases h : d = i <;> simp [h]
  simp only [oneK, hr', ho', ne_eq, not_true, if_false, hl]
  have key : ∀ n, n ≤ rs[i].subs.length → firstNZ (subK (muted rs d) i) n = 0 ∨ firstNZ (subK (muted rs d) i) n = 11 := by
    intro n
    induction n with
    | zero => intro _; exact .inl rfl
    | succ n ih =>
      intro hn
      have hm := muted_find (d := d) hr (List.getElem?_eq_getElem (show n < rs[i].subs.length by omega)) (hs n (by omega))
      rcases ih (by omega) with h0 | h0
      · simp only [firstNZ, h0, if_true, hm]
        by_cases hc : (FindP rs (i : Int) (n : Int)).1 = (d : Int) <;> simp [hc]
      · exact .inr (by simp [firstNZ, h0])
  exact key _ (Nat.le_refl _)
theorem muted_bad {rs : List RelayM} {d i k : Nat} {r0 : RelayM} {x : SubM} (hr : rs[i]? = some r0) (hx : r0.subs[k]? = some x) (h : AllZero (oneK rs) rs.length) (hd : (FindP rs (i : Int) (k : Int)).1 = (d : Int)) : oneK (muted rs d) i ≠ 0 := by
  have hi := (List.getElem?_eq_some_iff.1 hr).1
  obtain ⟨ho, hs⟩ := one_zero hr (h i hi)
  have hk := (List.getElem?_eq_some_iff.1 hx).1
  have hm := muted_find (d := d) hr hx (hs k hk)
  rw [if_pos hd] at hm
  have hr' : (muted rs d)[i]? = some (if d = i then { r0 with pubs := [] } else r0) := by rw [muted_at, hr]; rfl
  intro h0
  obtain ⟨_, hz⟩ := one_zero hr' h0
  have := hz k (by by_cases h : d = i <;> simp [h, hk])
  rw [hm] at this
  exact absurd this (by decide)
/-- The law of SignalsUnpublished in plain words. -/
theorem muted_check {rs : List RelayM} {d i k : Nat} {r0 : RelayM} {x : SubM} (hr : rs[i]? = some r0) (hx : r0.subs[k]? = some x) (h : AllZero (oneK rs) rs.length) (hd : (FindP rs (i : Int) (k : Int)).1 = (d : Int)) :
    (checkUpto (muted rs d) (muted rs d).length).2 = 11 ∧ (checkUpto (muted rs d) (muted rs d).length).1 ≤ (i : Int) ∧ (FindP (muted rs d) (i : Int) (k : Int)).2.2.2 = 11 := by
  have hi := (List.getElem?_eq_some_iff.1 hr).1
  obtain ⟨ho, hs⟩ := one_zero hr (h i hi)
  have hk := (List.getElem?_eq_some_iff.1 hx).1
  have hm := muted_find (d := d) hr hx (hs k hk)
  rw [if_pos hd] at hm
  have hbad := muted_bad hr hx h hd
  have key : ∀ n, n ≤ i → AllZero (oneK (muted rs d)) n ∨ ∃ m, m < n ∧ AllZero (oneK (muted rs d)) m ∧ oneK (muted rs d) m = 11 := by
    intro n
    induction n with
    | zero => intro _; exact .inl (allZero_zero _)
    | succ n ih =>
      intro hn
      rcases ih (by omega) with h0 | ⟨m, h1, h2, h3⟩
      · rcases muted_one (d := d) (show n < rs.length by omega) h with h4 | h4
        · exact .inl (allZero_succ h0 h4)
        · exact .inr ⟨n, by omega, h0, h4⟩
      · exact .inr ⟨m, by omega, h2, h3⟩
  rw [muted_len]
  rcases key i (Nat.le_refl _) with h0 | ⟨m, h1, h2, h3⟩
  · have h4 : oneK (muted rs d) i = 11 := by
      rcases muted_one (d := d) hi h with h5 | h5
      · exact absurd h5 hbad
      · exact h5
    rw [check_found h0 hbad hi]
    exact ⟨h4, Int.le_refl _, hm⟩
  · rw [check_found h2 (by rw [h3]; decide) (show m < rs.length by omega)]
    exact ⟨h3, by show (m : Int) ≤ (i : Int); omega, hm⟩
end Go.Proofs.YtfncnhgopbmabaaDoor
