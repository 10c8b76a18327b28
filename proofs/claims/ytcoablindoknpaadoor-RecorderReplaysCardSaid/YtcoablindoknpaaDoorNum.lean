/-
  Numbers in a text: number of the program; the digits of a number and what they read as.
-/
import Derived.Test.YtcoablindoknpaaDoorFormat
import Derived.Lib.IndexMore
namespace Go.Proofs.YtcoablindoknpaaDoor
open Go.RowKit

def digB (c : UInt8) : Bool := decide (48 ≤ c.toNat ∧ c.toNat ≤ 57)
def numV (l : List UInt8) : Nat := l.foldl (fun n c => 10 * n + (c.toNat - 48)) 0
def numP (s : List UInt8) : Int × Bool := if s = [] ∨ 10 < s.length then (0, false) else if s.all digB then ((numV s : Int), true) else (0, false)
theorem numV_snoc (l : List UInt8) (c : UInt8) : numV (l ++ [c]) = 10 * numV l + (c.toNat - 48) := by simp [numV]
theorem numV_lt : ∀ (k : Nat) (l : List UInt8), l.length = k → l.all digB = true → numV l < 10 ^ k
  | 0, l, h, _ => by
    obtain rfl := List.eq_nil_of_length_eq_zero h
    simp [numV]
  | k + 1, l, h, ha => by
    have hne : l ≠ [] := by intro h0; subst h0; simp at h
    obtain ⟨r, c, rfl⟩ : ∃ r c, l = r ++ [c] := ⟨l.dropLast, l.getLast hne, (List.dropLast_concat_getLast hne).symm⟩
    rw [List.all_append, Bool.and_eq_true] at ha
    have ih := numV_lt k r (by simpa using h) ha.1
    have hd : digB c = true := by simpa using ha.2
    unfold digB at hd
    rw [decide_eq_true_eq] at hd
    rw [numV_snoc, Nat.pow_succ]
    omega
def RetNum (p : Int × Bool) (w : World) (e : Ending) (w' : World) : Prop := e = .returned (.tuple #[.int .i64 p.1, .bool p.2]) ∧ w = w'
def NmR (w : World) (s : List UInt8) (n i : Value) (wr : World) : Prop := ∃ k : Nat, k ≤ s.length ∧ i = .int .i64 k ∧ n = .int .i64 (numV (s.take k)) ∧ (s.take k).all digB = true ∧ wr = w

theorem numP_bad {s : List UInt8} {k : Nat} {c : UInt8} (h : s[k]? = some c) (hc : digB c = false) : numP s = (0, false) := by
  have : s.all digB = false := by
    rw [List.all_eq_false]
    exact ⟨c, List.mem_of_getElem? h, by simp [hc]⟩
  simp [numP, this]
theorem numP_ok {s : List UInt8} (h0 : ¬ s = []) (h1 : ¬ 10 < s.length) (h : s.all digB = true) : numP s = ((numV s : Int), true) := by simp [numP, h0, h1, h]
theorem take_snoc8 {s : List UInt8} {k : Nat} {c : UInt8} (h : s[k]? = some c) : s.take (k + 1) = s.take k ++ [c] := by rw [List.take_add_one, h]; rfl

set_option maxRecDepth 100000 in
set_option maxHeartbeats 4000000 in
theorem number_any (s : List UInt8) (w : World) (hs : s.length ≤ maxLen) : Calls Tryd.prog 53 #[.string ⟨s.toArray⟩] w (RetNum (numP s) w) := by
  unfold maxLen at hs
  by_cases h0 : s = []
  · subst h0
    go_enter Tryd.func53, Tryd.ntmps53
    go_wp2
    refine bodyPost_ret (v := .tuple #[.int .i64 0, .bool false]) (by simp [results, Tryd.results53, go_sem]) rfl ?_
    exact ⟨rfl, rfl⟩
  by_cases h1 : 10 < s.length
  · have e0 := Lib.hid (show numP s = (0, false) by simp [numP, h1])
    go_enter Tryd.func53, Tryd.ntmps53
    go_wp2
    refine bodyPost_ret (v := .tuple #[.int .i64 0, .bool false]) (by simp [results, Tryd.results53, go_sem]) rfl ?_
    rw [e0.out]
    exact ⟨rfl, rfl⟩
  have HOK := Lib.hid (numP_ok h0 h1)
  have hE : s.isEmpty = false := by simpa using h0
  have hL : ¬ (10 : Int) < (s.length : Int) := by omega
  go_enter Tryd.func53, Tryd.ntmps53
  go_wp2
  go_loopw [4, 15] (NmR w s) (fun _ i _ => s.length - (intOf i).toNat)
  case atStart => exact ⟨0, Nat.zero_le _, rfl, rfl, rfl, rfl⟩
  case round =>
    obtain ⟨k, hk, rfl, rfl, hd, rfl⟩ := hrel
    have HD := Lib.hid hd
    have hv := numV_lt _ _ rfl hd
    clear hd
    by_cases hlt : k < s.length
    · have hc := List.getElem?_eq_getElem hlt
      have hlk : (s.take k).length = k := by rw [List.length_take]; omega
      rw [hlk] at hv
      have hv10 : numV (s.take k) < 10 ^ 9 := Nat.lt_of_lt_of_le hv (Nat.pow_le_pow_right (by decide) (by omega))
      generalize hcc : s[k] = c at *
      have HC := Lib.hid hc
      have HS := Lib.hid (take_snoc8 hc)
      generalize hnn : numV (s.take k) = n at *
      have hkb : ({ data := s.toArray } : ByteArray)[k]'(by show k < s.toArray.size; simpa using hlt) = c := by subst hcc; rfl
      clear hv hlk hcc hc
      by_cases c1 : c.toNat < 48
      · have hb : (c.toNat : Int) < 48 := by omega
        have HB := Lib.hid (numP_bad HC.out (by simp [digB]; omega))
        clear c1
        go_wp2
        refine bodyPost_ret (v := .tuple #[.int .i64 0, .bool false]) (by simp [results, Tryd.results53, go_sem]) rfl ?_
        rw [HB.out]
        exact ⟨rfl, rfl⟩
      by_cases c2 : 57 < c.toNat
      · have hb : (57 : Int) < (c.toNat : Int) := by omega
        have hb2 : (48 : Int) ≤ (c.toNat : Int) := by omega
        have HB := Lib.hid (numP_bad HC.out (by simp [digB]; omega))
        clear c1 c2
        go_wp2
        refine bodyPost_ret (v := .tuple #[.int .i64 0, .bool false]) (by simp [results, Tryd.results53, go_sem]) rfl ?_
        rw [HB.out]
        exact ⟨rfl, rfl⟩
      have hb : (c.toNat : Int) ≤ 57 := by omega
      have hb2 : (48 : Int) ≤ (c.toNat : Int) := by omega
      have HG := Lib.hid (show digB c = true by simp [digB]; omega)
      have HN := Lib.hid hnn
      clear c1 c2 hnn
      go_wp2
      go_roundw
      case rel =>
        refine ⟨k + 1, by omega, by go_num, ?_, ?_, rfl⟩
        · rw [HS.out, numV_snoc, HN.out]
          congr 1
          omega
        · rw [HS.out, List.all_append, HD.out]
          simp [HG.out]
      case measure => simp [intOf]; omega
    · obtain rfl : k = s.length := by omega
      have e0 := HD.out
      rw [List.take_length] at e0 hv ⊢
      have HE := Lib.hid (HOK.out e0)
      clear e0
      go_wp2
      refine bodyPost_ret (v := .tuple #[.int .i64 (numV s), .bool true]) (by simp [results, Tryd.results53, go_sem]) rfl ?_
      rw [HE.out]
      exact ⟨rfl, rfl⟩
end Go.Proofs.YtcoablindoknpaaDoor
