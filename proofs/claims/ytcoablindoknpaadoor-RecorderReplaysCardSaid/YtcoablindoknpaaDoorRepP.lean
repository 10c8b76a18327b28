/-
  Replays, plain: the changes of successive steps, one step behind the other, tell each signal's value in each step. No program is run here.
-/
import Derived.Test.YtcoablindoknpaaDoorMergeM
import Derived.Test.YtcoablindoknpaaDoorChanges
import Derived.Test.YtcoablindoknpaaDoorLast
namespace Go.Proofs.YtcoablindoknpaaDoor
open Go.RowKit

theorem chS_mem {t d q : Int} {bf af : List Bool} {e : Ev} : ∀ {n : Nat}, e ∈ chS t d q bf af n → ∃ k v, k < n ∧ af[k]? = some v ∧ ¬ oldB bf k = v ∧ e = chE t d q k v
  | 0, h => by cases h
  | n + 1, h => by
    unfold chS at h
    rcases List.mem_append.1 h with h | h
    · obtain ⟨k, v, h1, h2, h3, h4⟩ := chS_mem h
      exact ⟨k, v, by omega, h2, h3, h4⟩
    · cases hv : af[n]? with
      | none => rw [hv] at h; cases h
      | some v =>
        rw [hv] at h
        simp only at h
        split at h
        · cases h
        · rename_i hne
          rw [List.mem_singleton] at h
          exact ⟨n, v, Nat.lt_succ_self _, hv, hne, h⟩
theorem chS_has {t d q : Int} {bf af : List Bool} {k : Nat} {v : Bool} (h : af[k]? = some v) (hv : ¬ oldB bf k = v) : ∀ {n : Nat}, k < n → chE t d q k v ∈ chS t d q bf af n
  | n + 1, hk => by
    unfold chS
    rw [List.mem_append]
    by_cases e : k = n
    · subst e
      right
      rw [h]
      simp [hv]
    · exact .inl (chS_has h hv (by omega))
theorem chS_sorted (t d q : Int) (bf af : List Bool) : ∀ n, (chS t d q bf af n).Pairwise leE
  | 0 => List.Pairwise.nil
  | n + 1 => by
    unfold chS
    rw [List.pairwise_append]
    refine ⟨chS_sorted t d q bf af n, ?_, fun x hx y hy => ?_⟩
    · split
      · exact List.Pairwise.nil
      · split
        · exact List.Pairwise.nil
        · exact List.pairwise_singleton _ _
    · obtain ⟨k, v, h1, -, -, rfl⟩ := chS_mem hx
      have hy' : ∃ v, y = chE t d q n v := by
        revert hy
        split
        · intro hy; cases hy
        · split
          · intro hy; cases hy
          · intro hy; rw [List.mem_singleton] at hy; exact ⟨_, hy⟩
      obtain ⟨u, rfl⟩ := hy'
      rw [leE_iff]
      right
      refine ⟨rfl, .inr ⟨rfl, ?_⟩⟩
      show (k : Int) ≤ (n : Int)
      omega

def stAt (ss : List (List Bool)) (k : Nat) : List Bool := (ss[k]?).getD []
/-- The state ahead of step k. -/
def prevS (wd : Nat) (ss : List (List Bool)) : Nat → List Bool
  | 0 => List.replicate wd false
  | k + 1 => stAt ss k
def repL (d : Int) (wd : Nat) (ss : List (List Bool)) : Nat → List Ev
  | 0 => []
  | k + 1 => repL d wd ss k ++ chS k d 0 (prevS wd ss k) (stAt ss k) wd
theorem repL_mem {d : Int} {wd : Nat} {ss : List (List Bool)} {e : Ev} : ∀ {k : Nat}, e ∈ repL d wd ss k → e.device = d ∧ 0 ≤ e.time ∧ e.time < k
  | 0, h => by cases h
  | k + 1, h => by
    unfold repL at h
    rcases List.mem_append.1 h with h | h
    · obtain ⟨h1, h2, h3⟩ := repL_mem h
      exact ⟨h1, h2, by omega⟩
    · obtain ⟨j, v, -, -, -, rfl⟩ := chS_mem h
      exact ⟨rfl, by show (0 : Int) ≤ (k : Int); omega, by show (k : Int) < ((k + 1 : Nat) : Int); omega⟩
theorem rep_before {d : Int} {wd : Nat} {ss : List (List Bool)} {k : Nat} {u v : Ev} (hu : u ∈ chS k d 0 (prevS wd ss k) (stAt ss k) wd) (hv : v ∈ repL d wd ss k) : beforeB v u = true := by
  obtain ⟨j, x, -, -, -, rfl⟩ := chS_mem hu
  obtain ⟨-, -, h3⟩ := repL_mem hv
  exact (before_iff _ _).2 (.inl h3)
theorem repL_sorted (d : Int) (wd : Nat) (ss : List (List Bool)) : ∀ k, (repL d wd ss k).Pairwise leE
  | 0 => List.Pairwise.nil
  | k + 1 => by
    unfold repL
    rw [List.pairwise_append]
    exact ⟨repL_sorted d wd ss k, chS_sorted _ _ _ _ _ _, fun x hx y hy => leE_of_before (rep_before hy hx)⟩
/-- The merge of a step's changes with what was before. -/
theorem rep_merge (d : Int) (wd : Nat) (ss : List (List Bool)) (k : Nat) : stE (chS k d 0 (prevS wd ss k) (stAt ss k) wd ++ repL d wd ss k) = repL d wd ss (k + 1) := by
  have h := st_rot [] (chS k d 0 (prevS wd ss k) (stAt ss k) wd) (repL d wd ss k) [] (fun u hu v hv => rep_before hu hv)
  simp only [List.nil_append, List.append_nil] at h
  rw [h]
  exact st_sorted _ (repL_sorted d wd ss (k + 1))
theorem last_skip {a b : List Ev} {d g t : Int} (h : ∀ e ∈ b, mtB d g t e = false) : lastP (a ++ b) d g t = lastP a d g t := by
  unfold lastP
  rw [List.reverse_append, List.find?_append]
  have : b.reverse.find? (mtB d g t) = Option.none := by
    rw [List.find?_eq_none]
    intro e he
    rw [h e (List.mem_reverse.1 he)]
    decide
  rw [this]
  rfl
theorem last_hit {a b : List Ev} {d g t : Int} {e : Ev} (h : b.reverse.find? (mtB d g t) = some e) : lastP (a ++ b) d g t = (e.value, true) := by
  unfold lastP
  rw [List.reverse_append, List.find?_append, h]
  rfl
theorem last_state (d : Int) (wd : Nat) (ss : List (List Bool)) (hw : ∀ k, k < ss.length → (stAt ss k).length = wd) (sig : Nat) (hs : sig < wd) : ∀ (k : Nat) (t : Int), k ≤ ss.length → (k : Int) ≤ t + 1 → ((lastP (repL d wd ss k) d sig t).1 && (lastP (repL d wd ss k) d sig t).2) = oldB (prevS wd ss k) sig
  | 0, t, _, _ => by
    simp [repL, lastP, oldB, prevS, hs]
  | k + 1, t, hk, ht => by
    have hlen := hw k (by omega)
    have hv : (stAt ss k)[sig]? = some (oldB (stAt ss k) sig) := by
      have : sig < (stAt ss k).length := by omega
      simp [oldB, List.getElem?_eq_getElem this]
    show _ = oldB (stAt ss k) sig
    unfold repL
    cases hf : (chS k d 0 (prevS wd ss k) (stAt ss k) wd).reverse.find? (mtB d sig t) with
    | some e =>
      rw [last_hit hf]
      have hm := List.mem_reverse.1 (List.mem_of_find?_eq_some hf)
      have hmt := List.find?_some hf
      obtain ⟨j, v, h1, h2, h3, rfl⟩ := chS_mem hm
      simp only [mtB, chE, decide_eq_true_eq] at hmt
      have hj : j = sig := by omega
      subst hj
      rw [hv] at h2
      cases h2
      simp [chE]
    | none =>
      have hno : ∀ e ∈ chS k d 0 (prevS wd ss k) (stAt ss k) wd, mtB d sig t e = false := by
        intro e he
        have := (List.find?_eq_none.1 hf) e (List.mem_reverse.2 he)
        simpa using this
      rw [last_skip hno, last_state d wd ss hw sig hs k t (by omega) (by omega)]
      rcases Decidable.em (oldB (prevS wd ss k) sig = oldB (stAt ss k) sig) with h | h
      · exact h
      · have hm := chS_has (t := k) (d := d) (q := 0) hv h hs
        have := hno _ hm
        simp only [mtB, chE, decide_eq_false_iff_not] at this
        exact absurd ⟨trivial, trivial, by omega⟩ this
/-- What Last answers at step i, all n steps recorded. -/
theorem last_replay {d : Int} {wd : Nat} {ss : List (List Bool)} (hw : ∀ k, k < ss.length → (stAt ss k).length = wd) {sig i : Nat} (hs : sig < wd) (hi : i < ss.length) : ∀ n, i < n → n ≤ ss.length → ((lastP (repL d wd ss n) d sig i).1 && (lastP (repL d wd ss n) d sig i).2) = oldB (stAt ss i) sig
  | n + 1, h1, h2 => by
    by_cases e : i = n
    · subst e
      exact last_state d wd ss hw sig hs (i + 1) i h2 (by omega)
    · have hno : ∀ x ∈ chS n d 0 (prevS wd ss n) (stAt ss n) wd, mtB d sig i x = false := by
        intro x hx
        obtain ⟨j, v, -, -, -, rfl⟩ := chS_mem hx
        simp only [mtB, chE, decide_eq_false_iff_not]
        rintro ⟨-, -, h⟩
        omega
      have ih := last_replay (d := d) hw hs hi n (by omega) (by omega)
      unfold repL
      rw [last_skip hno]
      exact ih
theorem repL_len (d : Int) (wd : Nat) (ss : List (List Bool)) : ∀ k, (repL d wd ss k).length ≤ k * wd
  | 0 => by simp [repL]
  | k + 1 => by
    have h1 := repL_len d wd ss k
    have h2 := chS_len k d 0 (prevS wd ss k) (stAt ss k) wd
    unfold repL
    rw [List.length_append, Nat.succ_mul]
    omega
end Go.Proofs.YtcoablindoknpaaDoor
