/-
  slices.Grow of nil and slices.Concat over lists of events.
-/
import Derived.Test.YtcoablindoknpaaDoorMerge
import Derived.Lib.AppendZerosOnto
import Derived.Lib.Walk
namespace Go.Proofs.YtcoablindoknpaaDoor
open Go.RowKit

def RetEmpty (w : World) (e : Ending) (w' : World) : Prop := ∃ v, e = .returned v ∧ w'.ownsRow w.heap.size 26 5 v 0 [] ∧ Below w.heap.size w w'

set_option maxRecDepth 100000 in
set_option maxHeartbeats 2000000 in
theorem grow_any (n : Nat) (hn : n ≤ 100000) (w : World) : Calls Tryd.prog 56 #[.slice Option.none 0 0, .int .i64 n] w (RetEmpty w) := by
  rcases Nat.eq_zero_or_pos n with rfl | hp
  · go_enter Tryd.func56, Tryd.ntmps56
    go_wp2
    go_ret
    exact ⟨_, rfl, World.ownsRow_nil _ _ _ _, Below.refl _ _⟩
  obtain ⟨i0, hi, hz0, hz1, hz2⟩ := info_parts infoEv
  have hold : (Builtin.firstCells i0.size 0 (.slice Option.none 0 0)).run Tryd.prog w.drew = .ok ([] : List Value).toArray w.drew := run_firstCells_none w.drew i0.size 0 0 0
  have hr := fun ty => Lib.run_append_grow_zeros (P := Tryd.prog) w 22 3 ty 26 i0 _ .i64 .i64 Tryd.underlying22 Tryd.underlying3 hi hz0 Option.none 0 0 [] hold n hp (by omega) (by omega) (by omega) (by rw [hz2]; omega) (by rw [hz2]; exact growslice_fits (by omega) (by omega))
  have hG1 := grownCap_ge w (0 + n) 0 26
  have hG2 := grownCap_le_maxLen w (0 + n) 0 26 (by unfold maxLen; omega)
  generalize grownCap w (0 + n) 0 26 = G at *
  unfold maxLen at hG2
  have h1 : ¬ (n : Int) < 0 := by omega
  have h4 : (0 : Int) < (n : Int) := by omega
  have hZs : (([] : List Value).toArray ++ Builtin.zeroCells (Value.agg #[.int .i64 0, .int .i64 0, .int .i64 0, .bool false, .int .i64 0]).cells n ++ Builtin.zeroCells (Value.agg #[.int .i64 0, .int .i64 0, .int .i64 0, .bool false, .int .i64 0]).cells (G - (0 + n))).size = G * 5 := by
    simp only [Array.size_append, List.size_toArray, size_zeroCells, List.length_nil, Value.cells]
    simp
    omega
  generalize ([] : List Value).toArray ++ Builtin.zeroCells (Value.agg #[.int .i64 0, .int .i64 0, .int .i64 0, .bool false, .int .i64 0]).cells n ++ Builtin.zeroCells (Value.agg #[.int .i64 0, .int .i64 0, .int .i64 0, .bool false, .int .i64 0]).cells (G - (0 + n)) = Z at *
  have hbel : Below w.heap.size w (w.alloc (.cells Z 26)).drew := (box_below w _).drew
  have hown : (w.alloc (.cells Z 26)).drew.ownsRow w.heap.size 26 5 (.slice (some ⟨w.heap.size, 0, Option.none⟩) 0 G) 0 [] :=
    ⟨rfl, .inr ⟨w.heap.size, G, Z, rfl, Nat.le_refl _, heap_alloc_new w _, Nat.zero_le _, by unfold maxLen; omega, hZs, by simp⟩⟩
  have HO := Lib.hid hown
  clear hold hown hZs
  go_enter Tryd.func56, Tryd.ntmps56
  go_wp2_with (at_builtin; refine Lib.wpList_append_run _ rfl _ _ _ _ rfl _ _ rfl rfl _ _ (hr _) ?_)
  all_goals (go_ret; exact ⟨_, rfl, HO.out, hbel⟩)

def CcO (w : World) (xss : List (List Ev)) (v i : Value) (wr : World) : Prop := ∃ k : Nat, k ≤ xss.length ∧ i = .int .i64 k ∧ v = .int .i64 ((xss.take k).flatten.length : Nat) ∧ wr = w
def CcA (w : World) (xss : List (List Ev)) (v i : Value) (wr : World) : Prop := ∃ k : Nat, k ≤ xss.length ∧ i = .int .i64 k ∧ OwnE w (xss.take k).flatten v wr

set_option maxRecDepth 100000 in
set_option maxHeartbeats 4000000 in
theorem concat_any (A : Option Addr) (c B : Nat) (xss : List (List Ev)) (w : World) (hB : B ≤ w.heap.size) (hr : Rws (SliceOf EvC 5) 1 w B A xss.length xss) (hn : xss.length ≤ 1000) (hlen : xss.flatten.length ≤ 1000) :
    Calls Tryd.prog 46 #[.slice A xss.length c] w (RetRow 26 5 xss.flatten.length (evCells xss.flatten) w) := by
  obtain ⟨i0, hi, hz0, hz1, hz2⟩ := info_parts infoEv
  go_enter Tryd.func46, Tryd.ntmps46
  go_wp2
  go_loopw [3, 11] (CcO w xss) (fun _ i _ => xss.length - (intOf i).toNat)
  case atStart => exact ⟨0, Nat.zero_le _, rfl, rfl, rfl⟩
  case round =>
    obtain ⟨k, hk, rfl, rfl, hww⟩ := hrel
    have hww' := hww.symm
    clear hww
    subst hww'
    have hft := flat_take xss k
    by_cases hlt : k < xss.length
    · obtain ⟨b, o, x, A1, c1, rfl, hbB, hx, hc1, hm1, hr1, hcell⟩ := hr.sliceAt hlt
      have htl := flat_take xss (k + 1)
      have hfl : (xss.take (k + 1)).flatten.length = (xss.take k).flatten.length + x.length := by rw [take_snoc hx]; simp
      have HFL := Lib.hid hfl
      rw [hfl] at htl
      unfold maxLen at hm1
      generalize (xss.take k).flatten.length = s at *
      clear hx hfl hr1
      go_wp2
      go_roundw
      case rel => exact ⟨k + 1, by omega, by go_num, by rw [HFL.out]; go_num, rfl⟩
      case measure => simp [intOf]; omega
    · obtain rfl : k = xss.length := by omega
      rw [List.take_length]
      have CG := fun W => grow_any xss.flatten.length (by omega) W
      generalize hfl : xss.flatten.length = L at *
      have HFL := Lib.hid hfl
      have HCG := Lib.hid CG
      clear CG hfl
      go_wp2_with fail
      refine (HCG.out _).mono ?_
      rintro e w1 ⟨v, rfl, hown, hb1⟩
      have HW := Lib.hid hown
      clear hown
      go_wp2
      go_loopw [6, 27] (CcA w xss) (fun _ i _ => xss.length - (intOf i).toNat)
      case atStart => exact ⟨0, Nat.zero_le _, rfl, HW.out, hb1⟩
      case round =>
        clear HW hb1
        obtain ⟨k, hk, rfl, hown, hbel⟩ := hrel
        have hft := flat_take xss k
        by_cases hlt : k < xss.length
        · obtain ⟨b, o, x, A1, c1, rfl, hbB, hx, hc1, hm1, hr1, hcell0⟩ := hr.sliceAt hlt
          have hcell := (hbel.cell (p := ⟨b, o + k, Option.none⟩) (Nat.lt_of_lt_of_le hbB hB)).trans hcell0
          have SRC := Lib.hid (src_of_rws (hr1.mono EvC.mono (Nat.le_refl _) (hbel.mono hB)))
          have htl := flat_take xss (k + 1)
          have hfl : (xss.take (k + 1)).flatten = (xss.take k).flatten ++ x := by rw [take_snoc hx]; simp
          have hL := HFL.out
          rw [hfl, List.length_append, hL] at htl
          have HF2 := Lib.hid hfl
          have on1 := evCells_one x
          have m1 : (xss.take k).flatten.length + x.length ≤ maxLen := by unfold maxLen; omega
          have m2 : ((xss.take k).flatten.length + x.length) * 40 ≤ 140737488355328 := by omega
          generalize (xss.take k).flatten = S at *
          have HO := Lib.hid hown
          have hsz := hbel.size
          unfold maxLen at hm1
          clear hx hfl hr1 hown hL
          go_wp2_with (at_builtin; refine wpList_append_src (o := ⟨some 33, _, _, _, _, _⟩) _ _ 22 rfl rfl Tryd.underlying22 hi hz0 hz1 hz2 rfl (by decide) rfl HO.out hbel rfl SRC.out on1 m1 m2 hsz ?_; intro v2 w2 hown2 hbel2 hsz2)
          go_roundw
          case rel => exact ⟨k + 1, by omega, by go_num, by rw [HF2.out, evCells_append, List.length_append]; exact hown2, hbel2⟩
          case measure => simp [intOf]; omega
        · obtain rfl : k = xss.length := by omega
          rw [List.take_length] at hown
          rw [HFL.out] at hown
          have HO2 := Lib.hid hown
          clear hown
          go_wp2
          go_ret
          exact RetRow.mk HO2.out (Nat.le_refl _) hbel
end Go.Proofs.YtcoablindoknpaaDoor
