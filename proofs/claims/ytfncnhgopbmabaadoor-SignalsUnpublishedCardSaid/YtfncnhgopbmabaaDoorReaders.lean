/-
  Readers of the program and of the reference, over any configuration.
-/
import Derived.Test.YtfncnhgopbmabaaDoorDevices
import Derived.Deep.DeepCutAuto
namespace Go.Proofs.YtfncnhgopbmabaaDoor
open Go.RowKit

attribute [local go_sem ↓] loadRelay_fold storeRelay_fold
attribute [local go_sem] loadRelay_row storeRelay_new

theorem lookup_any (b n : Nat) (rs : List RelayM) (s : ByteArray) (w : World) (h : MapS Tryd.prog 9 3 w b n (devF rs rs.length)) (hs : s.size ≤ maxLen) :
    Calls Tryd.prog 39 #[.map (some b), .string s] w fun e w' => e = .returned (.int .i64 (idx (fun r => same r.name s) rs)) ∧ w = w' := by
  have hlk := h.look (t := 88) Tryd.underlying9 Tryd.underlying88 (zeroInt _) hs true
  rw [devF_all] at hlk
  clear h
  rcases idx_cases (fun r : RelayM => same r.name s) rs with ⟨hi, -⟩ | ⟨k, x, hi, -⟩
  · rw [hi] at hlk ⊢
    simp only [show ((-1 : Int) < 0) = True by simp, if_true, Option.getD_none, Option.isSome_none] at hlk
    clear hi
    go_enter Tryd.func39, Tryd.ntmps39
    go_wp2
    go_ret
    exact ⟨rfl, rfl⟩
  · rw [hi] at hlk ⊢
    have h0 : ¬ ((k : Int) < 0) := by omega
    simp only [h0, if_true, if_false, Option.getD_some, Option.isSome_some] at hlk
    clear hi
    go_enter Tryd.func39, Tryd.ntmps39
    go_wp2
    go_ret
    exact ⟨rfl, rfl⟩

/-- Does subscription j of relay i read this data set? -/
def hit (rs : List RelayM) (relay set : Int) (i j : Nat) : Bool := decide ((FindP rs i j).2.2.2 = 0 ∧ (FindP rs i j).1 = relay ∧ (FindP rs i j).2.1 = set)
theorem hit_eq (rs : List RelayM) (relay set : Int) (i j : Nat) : hit rs relay set i j = ((FindP rs i j).2.2.2 == 0 && ((FindP rs i j).1 == relay && (FindP rs i j).2.1 == set)) := by
  unfold hit; rw [Bool.eq_iff_iff]; simp
def rowL (rs : List RelayM) (relay set : Int) (i m : Nat) : List (Nat × Nat) := ((List.range m).filter (hit rs relay set i)).map fun j => (i, j)
def subsLen (rs : List RelayM) (i : Nat) : Nat := ((rs[i]?).map (·.subs.length)).getD 0
def allL (rs : List RelayM) (relay set : Int) (k : Nat) : List (Nat × Nat) := (List.range k).flatMap fun i => rowL rs relay set i (subsLen rs i)
def pairC (l : List (Nat × Nat)) : List Value := l.flatMap fun p => [.int .i64 (p.1 : Int), .int .i64 (p.2 : Int)]
theorem rowL_succ (rs : List RelayM) (relay set : Int) (i m : Nat) : rowL rs relay set i (m + 1) = rowL rs relay set i m ++ (if hit rs relay set i m then [(i, m)] else []) := by
  unfold rowL
  rw [List.range_succ, List.filter_append, List.map_append]
  congr 1
  cases h : hit rs relay set i m <;> simp [h]
theorem rowL_len (rs : List RelayM) (relay set : Int) (i m : Nat) : (rowL rs relay set i m).length ≤ m := by
  unfold rowL
  rw [List.length_map]
  exact Nat.le_trans (List.length_filter_le _ _) (by simp)
theorem allL_succ (rs : List RelayM) (relay set : Int) (k : Nat) : allL rs relay set (k + 1) = allL rs relay set k ++ rowL rs relay set k (subsLen rs k) := by
  unfold allL
  rw [List.range_succ, List.flatMap_append]
  simp
theorem allL_len (rs : List RelayM) (relay set : Int) (h : SmallAll rs) : ∀ k, (allL rs relay set k).length ≤ 30 * k := by
  intro k
  induction k with
  | zero => simp [allL]
  | succ k ih =>
    rw [allL_succ, List.length_append]
    have h1 := rowL_len rs relay set k (subsLen rs k)
    have h2 : subsLen rs k ≤ 30 := by
      unfold subsLen
      cases hx : rs[k]? with
      | none => simp
      | some x => simpa using (h.2 x (List.mem_of_getElem? hx)).subs
    omega
theorem pairC_snoc (l : List (Nat × Nat)) (i j : Nat) : pairC (l ++ [(i, j)]) = pairC l ++ [.int .i64 (i : Int), .int .i64 (j : Int)] := by simp [pairC]

/-- What has been gathered: all of the first k relays, and of relay k the first m. -/
def gone (rs : List RelayM) (relay set : Int) (k m : Nat) : List (Nat × Nat) := allL rs relay set k ++ rowL rs relay set k m
theorem gone_yes {rs : List RelayM} {relay set : Int} {k m : Nat} (h : hit rs relay set k m = true) : gone rs relay set k (m + 1) = gone rs relay set k m ++ [(k, m)] := by
  unfold gone; rw [rowL_succ, h, List.append_assoc]; simp
theorem gone_no {rs : List RelayM} {relay set : Int} {k m : Nat} (h : hit rs relay set k m = false) : gone rs relay set k (m + 1) = gone rs relay set k m := by
  unfold gone; rw [rowL_succ, h]; simp
theorem gone_end {rs : List RelayM} {relay set : Int} {k : Nat} {x : RelayM} (h : rs[k]? = some x) : gone rs relay set k x.subs.length = gone rs relay set (k + 1) 0 := by
  unfold gone; rw [allL_succ]; simp [subsLen, h, rowL]
theorem gone_len {rs : List RelayM} {relay set : Int} (h : SmallAll rs) (k m : Nat) (hk : k ≤ 20) (hm : m ≤ 30) : (gone rs relay set k m).length ≤ 660 := by
  unfold gone
  rw [List.length_append]
  have := allL_len rs relay set h k
  have := rowL_len rs relay set k m
  omega

theorem infoReader : (Tryd.prog.info? 65).map (fun i => (i.zero, i.size, i.bytes)) = some (some (.agg #[.int .i64 0, .int .i64 0]), 2, 16) := by kernel_rfl
theorem infoReaderR : (Tryd.prog.info? 66).map (fun i => (i.zero, i.size, i.bytes)) = some (some (.agg #[.int .i64 0, .int .i64 0]), 2, 16) := by kernel_rfl

/-- The loops' relations. -/
def RdO (t : TypeId) (B : Nat) (W2 : World) (rs : List RelayM) (relay set : Int) (v i : Value) (wr : World) : Prop :=
  ∃ k : Nat, k ≤ rs.length ∧ i = .int .i64 k ∧ wr.ownsRow B t 2 v (gone rs relay set k 0).length (pairC (gone rs relay set k 0)) ∧ Below B W2 wr
def RdI (t : TypeId) (B : Nat) (W2 : World) (rs : List RelayM) (relay set : Int) (k lim : Nat) (v i : Value) (wr : World) : Prop :=
  ∃ m : Nat, m ≤ lim ∧ i = .int .i64 m ∧ wr.ownsRow B t 2 v (gone rs relay set k m).length (pairC (gone rs relay set k m)) ∧ Below B W2 wr
end Go.Proofs.YtfncnhgopbmabaaDoor
