/-
  The reference's Size exactly.
-/
import Derived.Test.YtmbmngnnfkdngaaGreatDoorLaws
import Derived.Test.YtmbmngnnfkdngaaGreatDoorSmP
namespace Go.Proofs.YtmbmngnnfkdngaaGreatDoor
open Go.RowKit

/-- A number is returned; old memory is as it was. -/
def RetN (n : Int) (w : World) (e : Ending) (w' : World) : Prop := e = .returned (.int .i64 n) ∧ Below w.heap.size w w'
def SzX (W0 : World) (f : Ex → Nat) (ks : List Ex) (total : Nat) (g : Nat) (v u : Value) (wr : World) : Prop :=
  ∃ k m : Nat, k ≤ ks.length ∧ ks.length - k < g ∧ v = .int .i64 (k : Int) ∧ u = .int .i64 (m : Int) ∧ m + szL f (ks.drop k) = total ∧ Below W0.heap.size W0 wr
theorem szG_small {d : Nat} {x : Ex} (hd : d ≤ 30) (h : smG d x) : szG d x ≤ 1000000000000000000 := by
  have h1 := szG_le d x h
  have h2 : (4 : Nat) ^ d ≤ 4 ^ 30 := Nat.pow_le_pow_right (by omega) hd
  have h3 : (4 : Nat) ^ 30 = 1152921504606846976 := by decide
  omega

def SlX (W0 : World) (P : Ex → Prop) (ks : List Ex) (g : Nat) (v : Value) (wr : World) : Prop := ∃ k, k ≤ ks.length ∧ ks.length - k < g ∧ v = .int .i64 (k : Int) ∧ (∀ j x, j < k → ks[j]? = some x → P x) ∧ Below W0.heap.size W0 wr
theorem slx_all {P : Ex → Prop} {ks : List Ex} {k : Nat} (h : ∀ j x, j < k → ks[j]? = some x → P x) (hk : ks.length ≤ k) : ∀ x ∈ ks, P x := by
  intro x hx
  obtain ⟨j, hj, rfl⟩ := List.getElem_of_mem hx
  exact h j _ (by omega) (List.getElem?_eq_getElem hj)
theorem slx_succ {P : Ex → Prop} {ks : List Ex} {k : Nat} {y : Ex} (h : ∀ j x, j < k → ks[j]? = some x → P x) (hy : ks[k]? = some y) (hp : P y) : ∀ j x, j < k + 1 → ks[j]? = some x → P x := by
  intro j x hj hx
  rcases Nat.lt_succ_iff_lt_or_eq.1 hj with q | rfl
  · exact h j x q hx
  · rw [hy] at hx; cases hx; exact hp

set_option maxRecDepth 100000 in
set_option maxHeartbeats 4000000 in
theorem rsize_any : ∀ (d : Nat) (op n : Int) (nm : List UInt8) (A : Option Addr) (c : Nat) (ks : List Ex) (w : World), szG (d + 1) (.mk op n nm ks) ≤ 1000000000000000000 → ks.length ≤ 9223372036854775807 → Rw (ExC d) 4 w (fun b => b < w.heap.size) A ks.length ks →
    Calls Tryz.prog 44 #[exV op n nm A ks.length c] w (RetN (szG (d + 1) (.mk op n nm ks)) w) := by
  intro d
  induction d using Nat.strongRecOn with
  | _ d ih =>
    intro op n nm A c ks w hTl hkl hr
    have hT : 1 + szL (szG d) ks = szG (d + 1) (.mk op n nm ks) := rfl
    generalize hTT : szG (d + 1) (.mk op n nm ks) = T at *
    clear hTT
    have HT := Lib.hid hT
    have HIH := Lib.hid ih
    have HR := Lib.hid hr
    clear ih hr hT
    unfold exV
    have HB := Lib.hid (box_below w (Obj.cells #[.int .i64 op, .int .i64 n, .string ⟨nm.toArray⟩, .slice A ks.length c] 25))
    go_enter Tryz.func44, Tryz.ntmps44
    go_wp2
    go_loopg [9, 3] (ks.length + 1) (fun g v u wr => SzX (w.alloc (Obj.cells #[.int .i64 op, .int .i64 n, .string ⟨nm.toArray⟩, .slice A ks.length c] 25)) (szG d) ks T g v u wr)
    case atStart => exact ⟨0, 1, Nat.zero_le _, by omega, rfl, rfl, HT.out, Below.refl _ _⟩
    case round =>
      obtain ⟨k, m, hk, hg, rfl, rfl, hm, hb⟩ := hrel
      have hsz := hb.size
      simp only [World.size_alloc] at hsz
      have hbw := below_two HB.out hb HB.out.size
      by_cases hlt : k < ks.length
      case neg =>
        have HBW := Lib.hid hbw
        rw [List.drop_eq_nil_of_le (by omega)] at hm
        have HM := Lib.hid (show m = T from hm)
        clear hb hbw hm
        go_wp2
        go_ret
        exact ⟨by rw [HM.out]; rfl, HBW.out⟩
      obtain ⟨d', b, o, op2, n2, nm2, A2, c2, ys, hd', hA, hSb, hky, hc2, hm2, hp2, hr2, hxb⟩ := exAtC (HR.out.mono (ExC.mono _) (fun b q => q) (keepOn_below hbw fun b q => q)) hlt
      subst hA
      obtain ⟨y0, y1, y2, y3⟩ := hxb
      have hget : ks[k] = .mk op2 n2 nm2 ys := by
        rw [List.getElem?_eq_getElem hlt] at hky
        injection hky
      rw [List.drop_eq_getElem_cons hlt, hget] at hm
      unfold szL at hm
      have hbk : b < wr.heap.size := by omega
      have hbx := box_below wr (Obj.cells #[.int .i64 op2, .int .i64 n2, .string ⟨nm2.toArray⟩, .slice A2 ys.length c2] 25)
      have hys : ys.length ≤ 9223372036854775807 := by unfold maxLen at hm2; omega
      have C1 := HIH.out d' (by omega) op2 n2 nm2 A2 c2 ys (wr.alloc (Obj.cells #[.int .i64 op2, .int .i64 n2, .string ⟨nm2.toArray⟩, .slice A2 ys.length c2] 25)) (by rw [← hd']; omega) hys (hr2.mono (ExC.mono _) (fun b q => by simp only [World.size_alloc]; omega) (keepOn_below hbx fun b q => by omega))
      rw [← hd'] at C1
      unfold exV at C1
      generalize szG d (.mk op2 n2 nm2 ys) = s2 at *
      have HC1 := Lib.hid C1
      have HM := Lib.hid (show m + s2 + szL (szG d) (ks.drop (k + 1)) = T by omega)
      have hms : m + s2 ≤ 1000000000000000000 := by omega
      have HBB := Lib.hid (below_two hb hbx hb.size)
      clear hr2 C1 hbw hp2 hky hb hbx hSb hc2 hm hget hd'
      unfold maxLen at hm2
      go_wp2_with fail
      refine HC1.out.mono ?_
      rintro e w5 ⟨rfl, hb5⟩
      go_wp2
      go_roundg (ks.length - k)
      case measure => omega
      case rel => exact ⟨k + 1, m + s2, by omega, by omega, by go_num, by go_num, HM.out, below_two HBB.out hb5 HBB.out.size⟩
end Go.Proofs.YtmbmngnnfkdngaaGreatDoor
