/-
  What an instruction does, case by case; what a verified program's instructions find. Plain words. No program is named here.
-/
import Derived.Test.YtcikenlflcofbaaGreatDoorP2
namespace Go.Proofs.YtcikenlflcofbaaGreatDoor

theorem step_err {p : Pg} {v : Vs} {c : Ins} {e : Int} (h : stepP p v c = .error e) : e ≠ 0 := by
  unfold stepP at h
  split at h
  · cases h; decide
  split at h
  · cases h; decide
  split at h
  · cases h; decide
  split at h
  · cases h; decide
  split at h
  · split at h
    · cases h; decide
    · cases h
  · split at h
    · cases h; decide
    · cases h
theorem run_zero {p : Pg} : ∀ {l : List Ins} {i a b : Int} {v : Vs} {most : Int}, runG p l i v most = (a, b, 0) → runG p l i v most = (0, b, 0)
  | [], i, a, b, v, most, h => by
    rw [runG_nil] at h ⊢
    split at h
    · cases h
    split at h
    · cases h
    rename_i h1 h2
    rw [if_neg h1, if_neg h2]
    cases h
    rfl
  | c :: l, i, a, b, v, most, h => by
    rw [runG_cons] at h ⊢
    cases hs : stepP p v c with
    | error e =>
      rw [hs] at h
      injection h with _ h
      injection h with _ h
      exact absurd h (step_err hs)
    | ok v' =>
      rw [hs] at h
      exact run_zero h
/-- A verified program's next instruction is taken. -/
theorem run_next {p : Pg} {c : Ins} {l : List Ins} {i : Int} {v : Vs} {most m : Int} (h : runG p (c :: l) i v most = (0, m, 0)) : ∃ v', stepP p v c = .ok v' ∧ runG p l (i + 1) v' (max most v'.st.length) = (0, m, 0) := by
  rw [runG_cons] at h
  cases hs : stepP p v c with
  | error e =>
    rw [hs] at h
    injection h with _ h
    injection h with _ h
    exact absurd h (step_err hs)
  | ok v' =>
    rw [hs] at h
    exact ⟨v', rfl, h⟩
theorem step_len {p : Pg} {v v' : Vs} {c : Ins} (h : stepP p v c = .ok v') (h24 : v.st.length ≤ 24) : v'.st.length ≤ 24 := by
  obtain ⟨-, -, -, k, -, hv⟩ := step_inv h
  rcases hv with ⟨-, -, rfl⟩ | ⟨-, h1, rfl⟩
  · simp only [List.length_take]; omega
  · simp only [List.length_append, List.length_take, List.length_singleton]; unfold restN at h1 ⊢; omega
theorem ex_lit (p : Pg) (inp : List Int) (s : Xs) {c : Ins} (h : c.op = 1 ∨ c.op = 2) : exP p inp s c = ⟨s.st ++ [c.a], s.vals, s.cells⟩ := by unfold exP; rw [if_pos h]
theorem ex_inp (p : Pg) (inp : List Int) (s : Xs) {c : Ins} (h : c.op = 30) : exP p inp s c = ⟨s.st ++ [limP (inp.getD c.a.toNat 0)], s.vals, s.cells⟩ := by unfold exP; rw [if_neg (by omega), if_pos h]
theorem ex_rul (p : Pg) (inp : List Int) (s : Xs) {c : Ins} (h : c.op = 31) : exP p inp s c = ⟨s.st ++ [s.vals.getD c.a.toNat 0], s.vals, s.cells⟩ := by unfold exP; rw [if_neg (by omega), if_neg (by omega), if_pos h]
theorem ex_sto (p : Pg) (inp : List Int) (s : Xs) {c : Ins} (h : c.op = 32) : exP p inp s c = ⟨restX s c, s.vals.set c.a.toNat ((argsX s c).getD 0 0), s.cells⟩ := by unfold exP; rw [if_neg (by omega), if_neg (by omega), if_neg (by omega), if_pos h]
theorem kept_iff {op : Int} : keptB op = true ↔ 17 ≤ op ∧ op ≤ 22 := by unfold keptB; simp
theorem ex_cel (p : Pg) (inp : List Int) (s : Xs) {c : Ins} (h : 17 ≤ c.op ∧ c.op ≤ 22) {u : Nat} {l : Cl} {t : Cs} (ha : c.a = (u : Int)) (hl : p.cells[u]? = some l) (ht : s.cells[u]? = some t) :
    exP p inp s c = ⟨restX s c ++ [(cellP c.op l.n t (decide ((argsX s c).getD 0 0 = 1)) (decide ((argsX s c).getD 1 0 = 1))).1], s.vals, s.cells.set u (cellP c.op l.n t (decide ((argsX s c).getD 0 0 = 1)) (decide ((argsX s c).getD 1 0 = 1))).2⟩ := by
  have e1 : p.cells.getD c.a.toNat ⟨0, 0⟩ = l := by rw [List.getD_eq_getElem?_getD, ha, Int.toNat_natCast, hl]; rfl
  have e2 : s.cells.getD c.a.toNat ⟨false, 0⟩ = t := by rw [List.getD_eq_getElem?_getD, ha, Int.toNat_natCast, ht]; rfl
  unfold exP
  rw [if_neg (by omega), if_neg (by omega), if_neg (by omega), if_neg (by omega), if_pos (kept_iff.2 h), e1, e2, ha, Int.toNat_natCast]
theorem ex_pla (p : Pg) (inp : List Int) (s : Xs) {c : Ins} (h : 4 ≤ c.op ∧ c.op ≤ 16) : exP p inp s c = ⟨restX s c ++ [plainP c.op (argsX s c)], s.vals, s.cells⟩ := by
  have hk : keptB c.op = false := by unfold keptB; simp; omega
  unfold exP
  rw [if_neg (by omega), if_neg (by omega), if_neg (by omega), if_neg (by omega), hk, if_neg (by decide)]
theorem op_cases {op : Int} (h : 0 ≤ opnP op) : (op = 1 ∨ op = 2) ∨ op = 30 ∨ op = 31 ∨ op = 32 ∨ (17 ≤ op ∧ op ≤ 22) ∨ (4 ≤ op ∧ op ≤ 16) := by
  have : ¬ (opnP op = -1) := by omega
  unfold opnP at this
  by_cases hb : 5 ≤ op ∧ op ≤ 22
  · omega
  · rw [if_neg (c := 5 ≤ op ∧ op ≤ 22) hb] at this
    split at this
    · omega
    · split at this
      · omega
      · split at this
        · omega
        · exact absurd rfl this
/-- The operands of an operation without a cell. -/
theorem pla_args {p : Pg} {v v' : Vs} {s : Xs} {c : Ins} (h : stepP p v c = .ok v') (hs : StOk p v s) (_h4 : 4 ≤ c.op ∧ c.op ≤ 16) : opnP c.op = (argsX s c).length ∧ (∀ x ∈ argsX s c, -1000000000 ≤ x ∧ x ≤ 1000000000) ∧ (c.op = 5 ∨ c.op = 6 ∨ c.op = 7 → ∀ x ∈ argsX s c, x = 0 ∨ x = 1) := by
  have hI := ins_ok h hs
  obtain ⟨-, -, -, k, hk, -⟩ := step_inv h
  have hmem : ∀ x ∈ argsX s c, ∃ kd, kd ∈ v.st.drop (restN v c) ∧ okV kd x := by
    intro x hx
    obtain ⟨j, hj⟩ := List.getElem?_of_mem hx
    have hjl := (List.getElem?_eq_some_iff.1 hj).1
    rw [hI.args.1] at hjl
    exact ⟨_, List.getElem_mem hjl, hI.args.2 j _ x (List.getElem?_eq_getElem hjl) hj⟩
  refine ⟨by rw [hI.alen]; have := hI.opn; omega, fun x hx => ?_, fun q x hx => ?_⟩
  · obtain ⟨kd, -, ho⟩ := hmem x hx
    exact ho.2
  · obtain ⟨kd, hkd, ho⟩ := hmem x hx
    unfold kndP at hk
    rw [if_neg (by omega)] at hk
    split at hk
    · rename_i hall
      have := List.all_eq_true.1 hall kd hkd
      have hs1 : (sigP c.op).1 = 1 := by rcases q with q | q | q <;> rw [q] <;> decide
      simp only [hs1, decide_eq_true_eq] at this
      exact ho.1 this
    · cases hk
end Go.Proofs.YtcikenlflcofbaaGreatDoor
