/-
  The law's small and the reference's Size come to an end at every expression.
-/
import Derived.Test.YtmbmngnnfkdngaaDoorLaws
namespace Go.Proofs.YtmbmngnnfkdngaaDoor
open Go.RowKit

def SomeInt (w : World) (e : Ending) (w' : World) : Prop := ∃ m, e = .returned (.int .i64 m) ∧ Below w.heap.size w w'
def SomeBool (w : World) (e : Ending) (w' : World) : Prop := ∃ b, e = .returned (.bool b) ∧ Below w.heap.size w w'
def SzR (W0 : World) (n : Nat) (g : Nat) (v u : Value) (wr : World) : Prop := ∃ k m, k ≤ n ∧ n - k < g ∧ v = .int .i64 (k : Int) ∧ u = .int .i64 m ∧ Below W0.heap.size W0 wr

set_option maxRecDepth 100000 in
set_option maxHeartbeats 4000000 in
theorem size_some : ∀ (d : Nat) (op n : Int) (nm : List UInt8) (A : Option Addr) (c : Nat) (ks : List Ex) (w : World), ks.length ≤ 9223372036854775807 → Rw (ExC d) 4 w (fun b => b < w.heap.size) A ks.length ks →
    Calls Tryd.prog 32 #[exV op n nm A ks.length c] w (SomeInt w) := by
  intro d
  induction d with
  | zero =>
    intro op n nm A c ks w hl hr
    have h0 : ks.length = 0 := by
      rcases Nat.eq_zero_or_pos ks.length with h | h
      · exact h
      · obtain ⟨d', b, o, op, m, nm, A', c', ys, hd, -⟩ := exAtC hr h
        omega
    obtain rfl : ks = [] := List.length_eq_zero_iff.1 h0
    clear hr h0 hl
    unfold exV
    have HB := Lib.hid (box_below w (Obj.cells #[.int .i64 op, .int .i64 n, .string ⟨nm.toArray⟩, .slice A 0 c] 24))
    show Calls _ _ #[.agg #[_, _, _, .slice A 0 c]] _ _
    go_enter Tryd.func32, Tryd.ntmps32
    go_wp2
    go_loopg [9, 3] 1 (fun g v u wr => SzR (w.alloc (Obj.cells #[.int .i64 op, .int .i64 n, .string ⟨nm.toArray⟩, .slice A 0 c] 24)) 0 g v u wr)
    case atStart => exact ⟨0, 1, Nat.le_refl _, by omega, rfl, rfl, Below.refl _ _⟩
    case round =>
      obtain ⟨k, m, hk, hg, rfl, rfl, hb⟩ := hrel
      obtain rfl : k = 0 := by omega
      go_wp2
      go_ret
      exact ⟨_, rfl, below_two HB.out hb HB.out.size⟩
  | succ d ih =>
    intro op n nm A c ks w hl hr
    have HIH := Lib.hid ih
    have HR := Lib.hid hr
    clear ih hr
    unfold exV
    have HB := Lib.hid (box_below w (Obj.cells #[.int .i64 op, .int .i64 n, .string ⟨nm.toArray⟩, .slice A ks.length c] 24))
    go_enter Tryd.func32, Tryd.ntmps32
    go_wp2
    go_loopg [9, 3] (ks.length + 1) (fun g v u wr => SzR (w.alloc (Obj.cells #[.int .i64 op, .int .i64 n, .string ⟨nm.toArray⟩, .slice A ks.length c] 24)) ks.length g v u wr)
    case atStart => exact ⟨0, 1, Nat.zero_le _, by omega, rfl, rfl, Below.refl _ _⟩
    case round =>
      obtain ⟨k, m, hk, hg, rfl, rfl, hb⟩ := hrel
      have hsz := hb.size
      simp only [World.size_alloc] at hsz
      have hbw := below_two HB.out hb HB.out.size
      by_cases hlt : k < ks.length
      case neg =>
        have HBW := Lib.hid hbw
        clear hb hbw
        go_wp2
        go_ret
        exact ⟨_, rfl, HBW.out⟩
      obtain ⟨d', b, o, op2, n2, nm2, A2, c2, ys, hd', hA, hSb, hky, hc2, hm2, hp2, hr2, hxb⟩ := exAtC (HR.out.mono (ExC.mono _) (fun b q => q) (keepOn_below hbw fun b q => q)) hlt
      obtain rfl : d = d' := by omega
      subst hA
      obtain ⟨y0, y1, y2, y3⟩ := hxb
      have hbk : b < wr.heap.size := by omega
      have hbx := box_below wr (Obj.cells #[.int .i64 op2, .int .i64 n2, .string ⟨nm2.toArray⟩, .slice A2 ys.length c2] 24)
      have hl2 : ys.length ≤ 9223372036854775807 := by unfold maxLen at hm2; omega
      have C1 := HIH.out op2 n2 nm2 A2 c2 ys (wr.alloc (Obj.cells #[.int .i64 op2, .int .i64 n2, .string ⟨nm2.toArray⟩, .slice A2 ys.length c2] 24)) hl2 (hr2.mono (ExC.mono _) (fun b q => by simp only [World.size_alloc]; omega) (keepOn_below hbx fun b q => by omega))
      unfold exV at C1
      have HC1 := Lib.hid C1
      have HBB := Lib.hid (below_two hb hbx hb.size)
      clear hr2 C1 hbw hp2 hky hb hbx hSb hc2
      unfold maxLen at hm2
      go_wp2_with fail
      refine HC1.out.mono ?_
      rintro e w5 ⟨m5, rfl, hb5⟩
      go_wp2
      go_roundg (ks.length - k)
      case measure => omega
      case rel => exact ⟨k + 1, _, by omega, by omega, by go_num, rfl, below_two HBB.out hb5 HBB.out.size⟩

def SlR (W0 : World) (n : Nat) (g : Nat) (v : Value) (wr : World) : Prop := ∃ k, k ≤ n ∧ n - k < g ∧ v = .int .i64 (k : Int) ∧ Below W0.heap.size W0 wr
set_option maxRecDepth 100000 in
set_option maxHeartbeats 4000000 in
theorem small_some : ∀ (d : Nat) (op n : Int) (nm : List UInt8) (A : Option Addr) (c : Nat) (ks : List Ex) (dep : Int) (w : World), ks.length ≤ 9223372036854775807 → nm.length ≤ 9223372036854775807 → Rw (ExC d) 4 w (fun b => b < w.heap.size) A ks.length ks →
    Calls Tryd.prog 13 #[exV op n nm A ks.length c, .int .i64 dep] w (SomeBool w) := by
  intro d
  induction d with
  | zero =>
    intro op n nm A c ks dep w hl hnl hr
    have h0 : ks.length = 0 := by
      rcases Nat.eq_zero_or_pos ks.length with h | h
      · exact h
      · obtain ⟨d', b, o, op, m, nm, A', c', ys, hd, -⟩ := exAtC hr h
        omega
    obtain rfl : ks = [] := List.length_eq_zero_iff.1 h0
    have HR := Lib.hid hr
    clear hr h0 hl
    unfold exV
    have HB := Lib.hid (box_below w (Obj.cells #[.int .i64 op, .int .i64 n, .string ⟨nm.toArray⟩, .slice A 0 c] 24))
    have HX := Lib.hid (XV.new w op n nm A 0 c)
    have C1 := fun W => size_some 0 op n nm A c [] W (by simp) Rw.nil
    unfold exV at C1
    have HC1 := Lib.hid C1
    clear C1
    show Calls _ _ #[.agg #[_, _, _, .slice A 0 c], _] _ _
    by_cases hd : 30 < dep
    · go_enter Tryd.func13, Tryd.ntmps13
      go_wp2
      go_ret
      exact ⟨_, rfl, HB.out⟩
    by_cases hnm : 60 < nm.length
    · go_enter Tryd.func13, Tryd.ntmps13
      go_wp2
      go_ret
      exact ⟨_, rfl, HB.out⟩
    go_enter Tryd.func13, Tryd.ntmps13
    go_wp2
    go_loopg [24] 1 (fun g v wr => SlR (w.alloc (Obj.cells #[.int .i64 op, .int .i64 n, .string ⟨nm.toArray⟩, .slice A 0 c] 24)) 0 g v wr)
    case atStart => exact ⟨0, Nat.le_refl _, by omega, rfl, Below.refl _ _⟩
    case round =>
      obtain ⟨k, hk, hg, rfl, hb⟩ := hrel
      obtain rfl : k = 0 := by omega
      obtain ⟨x0, x1, x2, x3, -, -, -, -⟩ := (HX.out.below hb).cells
      have HBB := Lib.hid (below_two HB.out hb HB.out.size)
      clear hb
      go_wp2_with fail
      refine (HC1.out _).mono ?_
      rintro e w5 ⟨m5, rfl, hb5⟩
      go_wp2
      go_ret
      exact ⟨_, rfl, below_two HBB.out hb5 HBB.out.size⟩
  | succ d ih =>
    intro op n nm A c ks dep w hl hnl hr
    have HIH := Lib.hid ih
    have HR := Lib.hid hr
    clear ih hr
    unfold exV
    have HB := Lib.hid (box_below w (Obj.cells #[.int .i64 op, .int .i64 n, .string ⟨nm.toArray⟩, .slice A ks.length c] 24))
    have HX := Lib.hid (XV.new w op n nm A ks.length c)
    by_cases hd : 30 < dep
    · go_enter Tryd.func13, Tryd.ntmps13
      go_wp2
      go_ret
      exact ⟨_, rfl, HB.out⟩
    by_cases hk4 : 4 < ks.length
    · go_enter Tryd.func13, Tryd.ntmps13
      go_wp2
      go_ret
      exact ⟨_, rfl, HB.out⟩
    by_cases hnm : 60 < nm.length
    · go_enter Tryd.func13, Tryd.ntmps13
      go_wp2
      go_ret
      exact ⟨_, rfl, HB.out⟩
    go_enter Tryd.func13, Tryd.ntmps13
    go_wp2
    go_loopg [24] (ks.length + 1) (fun g v wr => SlR (w.alloc (Obj.cells #[.int .i64 op, .int .i64 n, .string ⟨nm.toArray⟩, .slice A ks.length c] 24)) ks.length g v wr)
    case atStart => exact ⟨0, Nat.zero_le _, by omega, rfl, Below.refl _ _⟩
    case round =>
      obtain ⟨k, hk, hg, rfl, hb⟩ := hrel
      have hsz := hb.size
      simp only [World.size_alloc] at hsz
      have hbw := below_two HB.out hb HB.out.size
      by_cases hlt : k < ks.length
      case neg =>
        obtain ⟨x0, x1, x2, x3, -, -, -, -⟩ := (HX.out.below hb).cells
        have C1 := size_some (d + 1) op n nm A c ks wr hl (HR.out.mono (ExC.mono _) (fun b q => by omega) (keepOn_below hbw fun b q => q))
        unfold exV at C1
        have HC1 := Lib.hid C1
        have HBW := Lib.hid hbw
        clear hb hbw C1
        go_wp2_with fail
        refine HC1.out.mono ?_
        rintro e w5 ⟨m5, rfl, hb5⟩
        go_wp2
        go_ret
        exact ⟨_, rfl, below_two HBW.out hb5 HBW.out.size⟩
      obtain ⟨d', b, o, op2, n2, nm2, A2, c2, ys, hd', hA, hSb, hky, hc2, hm2, hp2, hr2, hxb⟩ := exAtC (HR.out.mono (ExC.mono _) (fun b q => q) (keepOn_below hbw fun b q => q)) hlt
      obtain rfl : d = d' := by omega
      subst hA
      obtain ⟨y0, y1, y2, y3⟩ := hxb
      have hbk : b < wr.heap.size := by omega
      have hbx := box_below wr (Obj.cells #[.int .i64 op2, .int .i64 n2, .string ⟨nm2.toArray⟩, .slice A2 ys.length c2] 24)
      have hl2 : ys.length ≤ 9223372036854775807 := by unfold maxLen at hm2; omega
      have hn2 : nm2.length ≤ 9223372036854775807 := by have := hp2.2.2; unfold maxLen at this; omega
      have C1 := fun dp => HIH.out op2 n2 nm2 A2 c2 ys dp (wr.alloc (Obj.cells #[.int .i64 op2, .int .i64 n2, .string ⟨nm2.toArray⟩, .slice A2 ys.length c2] 24)) hl2 hn2 (hr2.mono (ExC.mono _) (fun b q => by simp only [World.size_alloc]; omega) (keepOn_below hbx fun b q => by omega))
      unfold exV at C1
      have HC1 := Lib.hid C1
      have HBB := Lib.hid (below_two hb hbx hb.size)
      have HBC := Lib.hid (below_two hbw hbx hbw.size)
      clear hr2 C1 hbw hp2 hky hb hbx hSb hc2
      unfold maxLen at hm2
      go_wp2_with fail
      refine (HC1.out _).mono ?_
      rintro e w5 ⟨b5, rfl, hb5⟩
      cases b5 with
      | false =>
        go_wp2
        go_ret
        exact ⟨_, rfl, below_two HBC.out hb5 HBC.out.size⟩
      | true =>
        go_wp2
        go_roundg (ks.length - k)
        case measure => omega
        case rel => exact ⟨k + 1, by omega, by omega, by go_num, below_two HBB.out hb5 HBB.out.size⟩
theorem small_in {w : World} {op n : Int} {nm : List UInt8} {A : Option Addr} {c : Nat} {ks : List Ex} (h : XI w op n nm A c ks) (dep : Int) : Calls Tryd.prog 13 #[.agg #[.int .i64 op, .int .i64 n, .string ⟨nm.toArray⟩, .slice A ks.length c], .int .i64 dep] w (SomeBool w) := by
  obtain ⟨d, hd⟩ := rw_ex h.rw
  have hm := h.hm
  have hc := h.hc
  have hn := h.hp.2.2
  unfold maxLen at hm hn
  exact small_some d op n nm A c ks dep w (by omega) (by omega) hd
end Go.Proofs.YtmbmngnnfkdngaaDoor
