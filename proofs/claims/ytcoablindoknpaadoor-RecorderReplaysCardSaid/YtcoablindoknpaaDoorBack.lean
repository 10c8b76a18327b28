/-
  slices.Backward over events: its closure hands the events over from the last to the first.
-/
import Derived.RangeFuncNested
import Derived.RangeFuncBound
import Derived.RangeFuncCalls
import Derived.RangeFuncLeaves
import Derived.Shelf.Abstract
import Derived.Shelf.RegionOpen
import Derived.WalkKit
import Derived.OwnWalkIn
import Derived.TacticsInMore
import Derived.LoopNIn
import Derived.LoopIn
import Derived.Test.YtcoablindoknpaaDoorRec
import Derived.Test.YtcoablindoknpaaDoorEvent
namespace Go.Proofs.YtcoablindoknpaaDoor
open Go.RowKit Go.Shelf

attribute [local go_sem] Oper.semAt_some

/-- What comes in round j: an index and an event. -/
def bk (es : List Ev) (j : Nat) : Nat × Ev := (es.length - 1 - j, (es[es.length - 1 - j]?).getD zeroEv)
def upto (es : List Ev) (k : Nat) : List (Nat × Ev) := (List.range k).map (bk es)
theorem upto_succ (es : List Ev) (k : Nat) : upto es (k + 1) = upto es k ++ [bk es k] := by simp [upto, List.range_succ]
theorem upto_length (es : List Ev) (k : Nat) : (upto es k).length = k := by simp [upto]
def encB (x : Nat × Ev) : Array Value := #[.int .i64 (x.1 : Int), .agg #[.int .i64 x.2.time, .int .i64 x.2.device, .int .i64 x.2.signal, .bool x.2.value, .int .i64 x.2.quality]]

set_option maxRecDepth 100000 in
set_option maxHeartbeats 2000000 in
theorem back1_in (F : Fence) (n : Nat) (h58 : F.fn 58) (hro : F.round = Option.none) (hn : 1 ≤ n) (l Bs n₀ cap : Nat) (A : Option Addr) (es : List Ev) (hes : es.length ≤ 100000) (hb : Bs < n₀) (J Jx : List (Nat × Ev) → World → Prop)
    (hY : ∀ pre x W, J pre W → pre.length < es.length → YieldAt F (n - 1) Tryd.prog l (encB x) W fun e W' =>
      (e = .returned (.bool true) ∧ J (pre ++ [x]) W' ∧ Below n₀ W W') ∨ (e = .returned (.bool false) ∧ Jx (pre ++ [x]) W'))
    (W : World) (hBs : W.cell? ⟨Bs, 0, Option.none⟩ = some (.slice A es.length cap)) (hr : Rws EvC 5 W n₀ A es.length es) (h0 : J [] W) :
    CallsIn F n Tryd.prog 58 #[.func (.yield l) #[] #[], .pointer (some ⟨Bs, 0, Option.none⟩)] W fun e W' => (∃ v, e = .returned v) ∧
      ((∃ ys, ys = upto es es.length ∧ J ys W') ∨ (∃ pre, (∃ k, k ≤ es.length ∧ pre = upto es k) ∧ Jx pre W')) := by
  refine callsIn_of_wp Tryd.func58 rfl h58 ?_ hro
  simp only [Tryd.ntmps58, List.size_toArray, List.length_cons, List.length_nil, Nat.reduceAdd, Nat.reduceSub, Array.replicate_succ, Array.replicate_zero, List.push_toArray, List.append_toArray, List.nil_append, List.cons_append]
  gi_wp2
  gi_loopw [3] (fun i wr => ∃ k : Nat, k ≤ es.length ∧ i = .int .i64 ((es.length : Int) - 1 - k) ∧ J (upto es k) wr ∧ Below n₀ W wr)
    (fun i _ => (intOf i + 1).toNat)
  case atStart => exact ⟨0, Nat.zero_le _, by simp, h0, Below.refl _ _⟩
  case round =>
    obtain ⟨k, hk, rfl, hJs, hnx⟩ := hrel
    by_cases hlt : k < es.length
    · obtain ⟨b, o, x, rfl, hbB, hx, E0⟩ := evAt hr (show es.length - 1 - k < es.length by omega)
      obtain ⟨q0, q1, q2, q3, q4⟩ := E0.below hnx hbB
      have hbk : bk es k = (es.length - 1 - k, x) := by unfold bk; rw [hx]; rfl
      obtain ⟨fn, tmps, assign, body, hy, hR⟩ := hY _ (es.length - 1 - k, x) wr hJs (by rw [upto_length]; exact hlt)
      have hcs := (hnx.cell (p := ⟨Bs, 0, Option.none⟩) hb).trans hBs
      have n1 : ((es.length : Int) - 1 - k) = ((es.length - 1 - k : Nat) : Int) := by omega
      rw [n1]
      have hUS := upto_succ es k
      rw [hbk] at hUS
      have HUS := Lib.hid hUS
      obtain ⟨m, hm⟩ : ∃ m, es.length - 1 - k = m := ⟨_, rfl⟩
      rw [hm] at E0 q0 q1 q2 q3 q4 hy hR HUS n1 ⊢
      have HM := Lib.hid (show m + k + 1 = es.length by omega)
      have hml : m < es.length := by omega
      unfold encB at hy
      dsimp only at hy
      clear hUS hx hbk hm n1
      gi_wp2
      refine hR.mono ?_
      rintro e W3 (⟨rfl, hJ3, hk3⟩ | ⟨rfl, hJx3⟩)
      · gi_wp2
        go_roundw
        case rel => exact ⟨k + 1, by omega, by have := HM.out; congr 1; omega, by rw [HUS.out]; exact hJ3, hnx.trans hk3⟩
        case measure => simp [intOf]
      · gi_wp2
        refine bodyPost_ret (results_none rfl _ _ _) rfl ?_
        exact ⟨⟨_, rfl⟩, .inr ⟨_, ⟨k + 1, by omega, HUS.out.symm⟩, hJx3⟩⟩
    · obtain rfl : k = es.length := by omega
      have n1 : ((es.length : Int) - 1 - es.length) = -1 := by omega
      rw [n1]
      gi_wp2
      go_end0
      exact ⟨⟨_, rfl⟩, .inl ⟨_, rfl, hJs⟩⟩

set_option maxHeartbeats 1000000 in
theorem back_in (F : Fence) (n : Nat) (h48 : F.fn 48) (hro : F.round = Option.none) (a : Option Addr) (len cap : Nat) (w : World) :
    CallsIn F n Tryd.prog 48 #[.slice a len cap] w fun e w' => e = .returned (.func (.func 58) #[] #[.pointer (some ⟨w.heap.size, 0, Option.none⟩)]) ∧ w' = w.alloc (.cells #[.slice a len cap] 22) := by
  refine callsIn_of_wp Tryd.func48 rfl h48 ?_ hro
  simp only [Tryd.ntmps48, List.size_toArray, List.length_cons, List.length_nil, Nat.reduceAdd, Nat.reduceSub, Array.replicate_succ, Array.replicate_zero, List.push_toArray, List.append_toArray, List.nil_append, List.cons_append]
  gi_wp2
  go_ret
  exact ⟨rfl, rfl⟩

theorem back_stops (F : Fence) (n : Nat) (h58 : F.fn 58) (hro : F.round = Option.none) (hn : 1 ≤ n) (Bs n₀ cap : Nat) (A : Option Addr) (es : List Ev) (hes : es.length ≤ 100000) (w : World) (hBs : Bs < n₀) (hn₀ : n₀ ≤ w.heap.size)
    (hc : w.cell? ⟨Bs, 0, Option.none⟩ = some (.slice A es.length cap)) (hr : Rws EvC 5 w n₀ A es.length es) :
    SeqStopsK F n Tryd.prog 58 #[.pointer (some ⟨Bs, 0, Option.none⟩)] encB (Below n₀) (fun ys => ys = upto es es.length) (fun pre => ∃ k, k ≤ es.length ∧ pre = upto es k) es.length w := fun l J Jx W hW _ _ hY h0 =>
  back1_in F n h58 hro hn l Bs n₀ cap A es hes hBs J Jx hY W ((hW.cell (p := ⟨Bs, 0, Option.none⟩) (Nat.lt_of_lt_of_le hBs hn₀)).trans hc) (hr.mono EvC.mono (Nat.le_refl _) (hW.mono hn₀)) h0
end Go.Proofs.YtcoablindoknpaaDoor
