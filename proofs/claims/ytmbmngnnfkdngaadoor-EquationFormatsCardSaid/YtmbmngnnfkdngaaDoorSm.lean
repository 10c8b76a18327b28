/-
  The reference's Size exactly; the law's small, and what it says if it says yes.
-/
import Derived.Test.YtmbmngnnfkdngaaDoorSmall
import Derived.Test.YtmbmngnnfkdngaaDoorSmP
namespace Go.Proofs.YtmbmngnnfkdngaaDoor
open Go.RowKit

/-- A number is returned; old memory is as it was. -/
def RetN (n : Int) (w : World) (e : Ending) (w' : World) : Prop := e = .returned (.int .i64 n) ∧ Below w.heap.size w w'
def SzX (W0 : World) (f : Ex → Nat) (ks : List Ex) (total : Nat) (g : Nat) (v u : Value) (wr : World) : Prop :=
  ∃ k m : Nat, k ≤ ks.length ∧ ks.length - k < g ∧ v = .int .i64 (k : Int) ∧ u = .int .i64 (m : Int) ∧ m + szL f (ks.drop k) = total ∧ Below W0.heap.size W0 wr
theorem szG_small {d : Nat} {x : Ex} (hd : d ≤ 30) (h : smG d x) : szG d x ≤ 1000000000000000000 := by
  have h1 := szG_le d x h
  have h2 : (4 : Nat) ^ d ≤ 4 ^ 30 := Nat.pow_le_pow_right (by omega) hd
  have h3 : (4 : Nat) ^ 30 = 1152921504606846976 := by decide
  omega

set_option maxRecDepth 100000 in
set_option maxHeartbeats 4000000 in
theorem rsize_any : ∀ (d : Nat) (op n : Int) (nm : List UInt8) (A : Option Addr) (c : Nat) (ks : List Ex) (w : World), szG (d + 1) (.mk op n nm ks) ≤ 1000000000000000000 → ks.length ≤ 9223372036854775807 → Rw (ExC d) 4 w (fun b => b < w.heap.size) A ks.length ks →
    Calls Tryd.prog 32 #[exV op n nm A ks.length c] w (RetN (szG (d + 1) (.mk op n nm ks)) w) := by
  intro d
  induction d using Nat.strongRecOn with
  | _ d ih =>
    intro op n nm A c ks w hTl hkl hr
    have hT : 1 + szL (szG d) ks = szG (d + 1) (.mk op n nm ks) := rfl
    generalize hTT : szG (d + 1) (.mk op n nm ks) = T at *
    clear hTT
    have HT := Lib.hid hT
    have HIH := Lib.hid ih
    have HR := Lib.hid hr
    clear ih hr hT
    unfold exV
    have HB := Lib.hid (box_below w (Obj.cells #[.int .i64 op, .int .i64 n, .string ⟨nm.toArray⟩, .slice A ks.length c] 24))
    go_enter Tryd.func32, Tryd.ntmps32
    go_wp2
    go_loopg [9, 3] (ks.length + 1) (fun g v u wr => SzX (w.alloc (Obj.cells #[.int .i64 op, .int .i64 n, .string ⟨nm.toArray⟩, .slice A ks.length c] 24)) (szG d) ks T g v u wr)
    case atStart => exact ⟨0, 1, Nat.zero_le _, by omega, rfl, rfl, HT.out, Below.refl _ _⟩
    case round =>
      obtain ⟨k, m, hk, hg, rfl, rfl, hm, hb⟩ := hrel
      have hsz := hb.size
      simp only [World.size_alloc] at hsz
      have hbw := below_two HB.out hb HB.out.size
      by_cases hlt : k < ks.length
      case neg =>
        have HBW := Lib.hid hbw
        rw [List.drop_eq_nil_of_le (by omega)] at hm
        have HM := Lib.hid (show m = T from hm)
        clear hb hbw hm
        go_wp2
        go_ret
        exact ⟨by rw [HM.out]; rfl, HBW.out⟩
      obtain ⟨d', b, o, op2, n2, nm2, A2, c2, ys, hd', hA, hSb, hky, hc2, hm2, hp2, hr2, hxb⟩ := exAtC (HR.out.mono (ExC.mono _) (fun b q => q) (keepOn_below hbw fun b q => q)) hlt
      subst hA
      obtain ⟨y0, y1, y2, y3⟩ := hxb
      have hget : ks[k] = .mk op2 n2 nm2 ys := by
        rw [List.getElem?_eq_getElem hlt] at hky
        injection hky
      rw [List.drop_eq_getElem_cons hlt, hget] at hm
      unfold szL at hm
      have hbk : b < wr.heap.size := by omega
      have hbx := box_below wr (Obj.cells #[.int .i64 op2, .int .i64 n2, .string ⟨nm2.toArray⟩, .slice A2 ys.length c2] 24)
      have hys : ys.length ≤ 9223372036854775807 := by unfold maxLen at hm2; omega
      have C1 := HIH.out d' (by omega) op2 n2 nm2 A2 c2 ys (wr.alloc (Obj.cells #[.int .i64 op2, .int .i64 n2, .string ⟨nm2.toArray⟩, .slice A2 ys.length c2] 24)) (by rw [← hd']; omega) hys (hr2.mono (ExC.mono _) (fun b q => by simp only [World.size_alloc]; omega) (keepOn_below hbx fun b q => by omega))
      rw [← hd'] at C1
      unfold exV at C1
      generalize szG d (.mk op2 n2 nm2 ys) = s2 at *
      have HC1 := Lib.hid C1
      have HM := Lib.hid (show m + s2 + szL (szG d) (ks.drop (k + 1)) = T by omega)
      have hms : m + s2 ≤ 1000000000000000000 := by omega
      have HBB := Lib.hid (below_two hb hbx hb.size)
      clear hr2 C1 hbw hp2 hky hb hbx hSb hc2 hm hget hd'
      unfold maxLen at hm2
      go_wp2_with fail
      refine HC1.out.mono ?_
      rintro e w5 ⟨rfl, hb5⟩
      go_wp2
      go_roundg (ks.length - k)
      case measure => omega
      case rel => exact ⟨k + 1, m + s2, by omega, by omega, by go_num, by go_num, HM.out, below_two HBB.out hb5 HBB.out.size⟩

/-- A yes of small. -/
def SmB (d : Nat) (x : Ex) (w : World) (e : Ending) (w' : World) : Prop := ∃ b, e = .returned (.bool b) ∧ (b = true → smG d x) ∧ Below w.heap.size w w'
def SlX (W0 : World) (P : Ex → Prop) (ks : List Ex) (g : Nat) (v : Value) (wr : World) : Prop := ∃ k, k ≤ ks.length ∧ ks.length - k < g ∧ v = .int .i64 (k : Int) ∧ (∀ j x, j < k → ks[j]? = some x → P x) ∧ Below W0.heap.size W0 wr
theorem slx_all {P : Ex → Prop} {ks : List Ex} {k : Nat} (h : ∀ j x, j < k → ks[j]? = some x → P x) (hk : ks.length ≤ k) : ∀ x ∈ ks, P x := by
  intro x hx
  obtain ⟨j, hj, rfl⟩ := List.getElem_of_mem hx
  exact h j _ (by omega) (List.getElem?_eq_getElem hj)
theorem slx_succ {P : Ex → Prop} {ks : List Ex} {k : Nat} {y : Ex} (h : ∀ j x, j < k → ks[j]? = some x → P x) (hy : ks[k]? = some y) (hp : P y) : ∀ j x, j < k + 1 → ks[j]? = some x → P x := by
  intro j x hj hx
  rcases Nat.lt_succ_iff_lt_or_eq.1 hj with q | rfl
  · exact h j x q hx
  · rw [hy] at hx; cases hx; exact hp

set_option maxRecDepth 100000 in
set_option maxHeartbeats 4000000 in
theorem small_exact : ∀ (q : Nat) (op n : Int) (nm : List UInt8) (A : Option Addr) (c : Nat) (ks : List Ex) (dep : Nat) (w : World), dep + q = 31 → ks.length ≤ 9223372036854775807 → nm.length ≤ 9223372036854775807 → Rw ExV 4 w (fun b => b < w.heap.size) A ks.length ks →
    Calls Tryd.prog 13 #[exV op n nm A ks.length c, .int .i64 (dep : Int)] w (SmB q (.mk op n nm ks) w) := by
  intro q
  induction q with
  | zero =>
    intro op n nm A c ks dep w hd hl hnl hr
    obtain rfl : dep = 31 := by omega
    unfold exV
    have HB := Lib.hid (box_below w (Obj.cells #[.int .i64 op, .int .i64 n, .string ⟨nm.toArray⟩, .slice A ks.length c] 24))
    go_enter Tryd.func13, Tryd.ntmps13
    go_wp2
    go_ret
    exact ⟨_, rfl, (fun q => by cases q), HB.out⟩
  | succ d ih =>
    intro op n nm A c ks dep w hd hl hnl hr
    have HIH := Lib.hid ih
    have HR := Lib.hid hr
    clear ih hr
    unfold exV
    have HB := Lib.hid (box_below w (Obj.cells #[.int .i64 op, .int .i64 n, .string ⟨nm.toArray⟩, .slice A ks.length c] 24))
    have HX := Lib.hid (XV.new w op n nm A ks.length c)
    have hdn : ¬ (30 : Int) < (dep : Int) := by omega
    by_cases hk4 : 4 < ks.length
    · go_enter Tryd.func13, Tryd.ntmps13
      go_wp2
      go_ret
      exact ⟨_, rfl, (fun q => by cases q), HB.out⟩
    by_cases hnm : 60 < nm.length
    · go_enter Tryd.func13, Tryd.ntmps13
      go_wp2
      go_ret
      exact ⟨_, rfl, (fun q => by cases q), HB.out⟩
    go_enter Tryd.func13, Tryd.ntmps13
    go_wp2
    go_loopg [24] (ks.length + 1) (fun g v wr => SlX (w.alloc (Obj.cells #[.int .i64 op, .int .i64 n, .string ⟨nm.toArray⟩, .slice A ks.length c] 24)) (smG d) ks g v wr)
    case atStart => exact ⟨0, Nat.zero_le _, by omega, rfl, fun j x h => absurd h (Nat.not_lt_zero _), Below.refl _ _⟩
    case round =>
      obtain ⟨k, hk, hg, rfl, hall, hb⟩ := hrel
      have HALL := Lib.hid hall
      clear hall
      have hsz := hb.size
      simp only [World.size_alloc] at hsz
      have hbw := below_two HB.out hb HB.out.size
      by_cases hlt : k < ks.length
      case neg =>
        obtain ⟨x0, x1, x2, x3, -, -, -, -⟩ := (HX.out.below hb).cells
        obtain ⟨dd, hdd⟩ := rw_ex (HR.out.mono (S' := fun b => b < wr.heap.size) ExV.mono (fun b q => Nat.lt_of_lt_of_le q hbw.size) (keepOn_below hbw fun b q => q))
        have C1 := size_some dd op n nm A c ks wr hl hdd
        unfold exV at C1
        have HC1 := Lib.hid C1
        have HBW := Lib.hid hbw
        have HSM := Lib.hid (show smG (d + 1) (.mk op n nm ks) from ⟨by omega, slx_all HALL.out (by omega)⟩)
        clear hb hbw C1 hdd
        go_wp2_with fail
        refine HC1.out.mono ?_
        rintro e w5 ⟨m5, rfl, hb5⟩
        go_wp2
        go_ret
        exact ⟨_, rfl, fun _ => HSM.out, below_two HBW.out hb5 HBW.out.size⟩
      obtain ⟨b, o, op2, n2, nm2, A2, c2, ys, hA, hSb, hky, hc2, hm2, hp2, hr2, hxb⟩ := exAt (HR.out.mono ExV.mono (fun b q => q) (keepOn_below hbw fun b q => q)) hlt
      subst hA
      obtain ⟨y0, y1, y2, y3⟩ := hxb
      have hbk : b < wr.heap.size := by omega
      have hbx := box_below wr (Obj.cells #[.int .i64 op2, .int .i64 n2, .string ⟨nm2.toArray⟩, .slice A2 ys.length c2] 24)
      have hl2 : ys.length ≤ 9223372036854775807 := by unfold maxLen at hm2; omega
      have hn2 : nm2.length ≤ 9223372036854775807 := by have := hp2.2.2; unfold maxLen at this; omega
      have C1 := HIH.out op2 n2 nm2 A2 c2 ys (dep + 1) (wr.alloc (Obj.cells #[.int .i64 op2, .int .i64 n2, .string ⟨nm2.toArray⟩, .slice A2 ys.length c2] 24)) (by omega) hl2 hn2 (hr2.mono ExV.mono (fun b q => by simp only [World.size_alloc]; omega) (keepOn_below hbx fun b q => by omega))
      unfold exV at C1
      rw [show ((dep + 1 : Nat) : Int) = (dep : Int) + 1 by omega] at C1
      have HC1 := Lib.hid C1
      have HKY := Lib.hid hky
      have HBB := Lib.hid (below_two hb hbx hb.size)
      have HBC := Lib.hid (below_two hbw hbx hbw.size)
      clear hr2 C1 hbw hp2 hky hb hbx hSb hc2
      unfold maxLen at hm2
      go_wp2_with fail
      refine HC1.out.mono ?_
      rintro e w5 ⟨b5, rfl, hb5s, hb5⟩
      cases b5 with
      | false =>
        go_wp2
        go_ret
        exact ⟨_, rfl, (fun q => by cases q), below_two HBC.out hb5 HBC.out.size⟩
      | true =>
        have HB5 := Lib.hid (hb5s rfl)
        clear hb5s
        go_wp2
        go_roundg (ks.length - k)
        case measure => omega
        case rel => exact ⟨k + 1, by omega, by omega, by go_num, slx_succ HALL.out HKY.out HB5.out, below_two HBB.out hb5 HBB.out.size⟩
theorem small_yes {w : World} {op n : Int} {nm : List UInt8} {A : Option Addr} {c : Nat} {ks : List Ex} (h : XI w op n nm A c ks) : Calls Tryd.prog 13 #[.agg #[.int .i64 op, .int .i64 n, .string ⟨nm.toArray⟩, .slice A ks.length c], .int .i64 1] w (SmB 30 (.mk op n nm ks) w) := by
  have hm := h.hm
  have hc := h.hc
  have hn := h.hp.2.2
  unfold maxLen at hm hn
  exact small_exact 30 op n nm A c ks 1 w rfl (by omega) (by omega) h.rw
end Go.Proofs.YtmbmngnnfkdngaaDoor
