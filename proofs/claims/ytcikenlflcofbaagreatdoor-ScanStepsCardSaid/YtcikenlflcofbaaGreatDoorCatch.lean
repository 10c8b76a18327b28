/-
  The deferred function of Parse.
-/
import Derived.Test.YtcikenlflcofbaaGreatDoorVaV
import Derived.Defers
import Derived.Recover
namespace Go.Proofs.YtcikenlflcofbaaGreatDoor
open Go.RowKit

/-- Parse's three result variables. -/
structure ResBox (w : World) (g : Nat) (op n : Int) (nm : List UInt8) (A : Option Addr) (k c : Nat) (a er : Int) : Prop where
  x : XV w g op n nm A k c
  p : IntBox w (g + 1) a
  e : w.heap[g + 2]? = some (.cells #[.int .i64 er] 28 (0, 0))
theorem ResBox.cells {w : World} {g : Nat} {op n : Int} {nm : List UInt8} {A : Option Addr} {k c : Nat} {a er : Int} (h : ResBox w g op n nm A k c a er) :
    (w.cell? ⟨g, 0, Option.none⟩ = some (.int .i64 op) ∧ w.cell? ⟨g, 1, Option.none⟩ = some (.int .i64 n) ∧ w.cell? ⟨g, 2, Option.none⟩ = some (.string ⟨nm.toArray⟩) ∧ w.cell? ⟨g, 3, Option.none⟩ = some (.slice A k c) ∧
    w.frozen? ⟨g, 0, Option.none⟩ = false ∧ w.frozen? ⟨g, 1, Option.none⟩ = false ∧ w.frozen? ⟨g, 2, Option.none⟩ = false ∧ w.frozen? ⟨g, 3, Option.none⟩ = false) ∧
    (w.cell? ⟨g + 1, 0, Option.none⟩ = some (.int .i64 a) ∧ w.frozen? ⟨g + 1, 0, Option.none⟩ = false) ∧ (w.cell? ⟨g + 2, 0, Option.none⟩ = some (.int .i64 er) ∧ w.frozen? ⟨g + 2, 0, Option.none⟩ = false) :=
  ⟨h.x.cells, h.p.cells, ⟨by have := h.e; simp [World.cell?, this], Lib.frozen_of_heap h.e 0⟩⟩
theorem ResBox.lt {w : World} {g : Nat} {op n : Int} {nm : List UInt8} {A : Option Addr} {k c : Nat} {a er : Int} (h : ResBox w g op n nm A k c a er) : g + 2 < w.heap.size := (Array.getElem?_eq_some_iff.1 h.e).1
theorem ResBox.grown {w w' : World} {row : Option Nat} {g : Nat} {op n : Int} {nm : List UInt8} {A : Option Addr} {k c : Nat} {a er : Int} (h : ResBox w g op n nm A k c a er) (hg : w.grownBy w' row) (h0 : some g ≠ row) (h1 : some (g + 1) ≠ row) (h2 : some (g + 2) ≠ row) : ResBox w' g op n nm A k c a er :=
  ⟨h.x.grown hg h0, h.p.grown hg h1, (hg.block _ h.lt h2).trans h.e⟩
/-- The three variables are stored. -/
def put6 (w : World) (g : Nat) (op n : Int) (nm : List UInt8) (A : Option Addr) (k c : Nat) (a er : Int) : World :=
  ((set4 w g (.int .i64 op) (.int .i64 n) (.string ⟨nm.toArray⟩) (.slice A k c)).setCell ⟨g + 1, 0, Option.none⟩ (.int .i64 a)).setCell ⟨g + 2, 0, Option.none⟩ (.int .i64 er)
theorem ResBox.put {w : World} {g : Nat} {op n : Int} {nm : List UInt8} {A : Option Addr} {k c : Nat} {a er : Int} (h : ResBox w g op n nm A k c a er) (op' n' : Int) (nm' : List UInt8) (A' : Option Addr) (k' c' : Nat) (a' er' : Int) : ResBox (put6 w g op' n' nm' A' k' c' a' er') g op' n' nm' A' k' c' a' er' := by
  have hx : XV (set4 w g (.int .i64 op') (.int .i64 n') (.string ⟨nm'.toArray⟩) (.slice A' k' c')) g op' n' nm' A' k' c' := ⟨set4_heap h.x.heap _ _ _ _⟩
  have hp := h.p.grown (set4_grown w g (.int .i64 op') (.int .i64 n') (.string ⟨nm'.toArray⟩) (.slice A' k' c')) (by intro q; injection q; omega)
  have he := ((set4_grown w g (.int .i64 op') (.int .i64 n') (.string ⟨nm'.toArray⟩) (.slice A' k' c')).block (g + 2) h.lt (by intro q; injection q; omega)).trans h.e
  have hx2 := hx.other (q := g + 1) (i := 0) (.int .i64 a') (by omega)
  have hp2 := hp.set a'
  have he2 := ((grown_set (set4 w g (.int .i64 op') (.int .i64 n') (.string ⟨nm'.toArray⟩) (.slice A' k' c')) (g + 1) 0 (.int .i64 a')).block (g + 2) (by rw [set4_size]; exact h.lt) (by intro q; injection q; omega)).trans he
  refine ⟨hx2.other (q := g + 2) (i := 0) (.int .i64 er') (by omega), hp2.grown (grown_set _ (g + 2) 0 (.int .i64 er')) (by intro q; injection q; omega), ?_⟩
  have := heap_setCell_same _ (g + 2) 0 _ _ (.int .i64 er') he2
  unfold put6
  rw [this]
  rfl
theorem put6_below {w : World} {g : Nat} (op n : Int) (nm : List UInt8) (A : Option Addr) (k c : Nat) (a er : Int) : Below g w (put6 w g op n nm A k c a er) :=
  ((((((Below.refl g w).setCell (p := ⟨g, 0, Option.none⟩) (Nat.le_refl _) _).setCell (p := ⟨g, 1, Option.none⟩) (Nat.le_refl _) _).setCell (p := ⟨g, 2, Option.none⟩) (Nat.le_refl _) _).setCell (p := ⟨g, 3, Option.none⟩) (Nat.le_refl _) _).setCell (p := ⟨g + 1, 0, Option.none⟩) (Nat.le_succ _) _).setCell (p := ⟨g + 2, 0, Option.none⟩) (Nat.le_add_right g 2) _

theorem ResBox.set2 {w : World} {g : Nat} {op n : Int} {nm : List UInt8} {A : Option Addr} {k c : Nat} {a0 e0 : Int} (h : ResBox w g op n nm A k c a0 e0) (a er : Int) : ResBox ((w.setCell ⟨g + 1, 0, Option.none⟩ (.int .i64 a)).setCell ⟨g + 2, 0, Option.none⟩ (.int .i64 er)) g op n nm A k c a er := by
  have he2 := ((grown_set w (g + 1) 0 (.int .i64 a)).block (g + 2) h.lt (by intro q; injection q; omega)).trans h.e
  refine ⟨(h.x.other (q := g + 1) (i := 0) (.int .i64 a) (by omega)).other (q := g + 2) (i := 0) (.int .i64 er) (by omega), (h.p.set a).grown (grown_set _ (g + 2) 0 (.int .i64 er)) (by intro q; injection q; omega), ?_⟩
  have := heap_setCell_same _ (g + 2) 0 _ _ (.int .i64 er) he2
  rw [this]
  rfl
theorem ResBox.below {w w' : World} {g : Nat} {op n : Int} {nm : List UInt8} {A : Option Addr} {k c : Nat} {a er : Int} (h : ResBox w g op n nm A k c a er) (hb : Below w.heap.size w w') : ResBox w' g op n nm A k c a er := h.grown (grown_of_below (row := Option.none) hb) (by simp) (by simp) (by simp)
def stopP (a er : Int) (rec : Bool) : PanicEntry := { v := .iface 128 (.agg #[.int .i64 a, .int .i64 er]), recovered := rec }
def CatchR (w : World) (g : Nat) (a er : Int) (e : Ending) (u : FrameMode) (w' : World) : Prop := e = .returned (.tuple #[]) ∧ u = .panicking [stopP a er true] ∧ ResBox w' g 0 0 [] Option.none 0 0 a er ∧ Below g w w'

theorem stopAssert (v : Value) (w : World) : (Instr.typeAssert (.iface 128 v) 20 128 true).run Tryz.prog w = .ok (.tuple #[v, .bool true]) w := by kernel_rfl
attribute [local go_sem] stopAssert
def EndQ (R : World → Prop) (e : Exit) (a : Act) (w : World) : Prop := e = .normal ∧ a.defers = [] ∧ R w
set_option maxRecDepth 100000 in
set_option maxHeartbeats 4000000 in
theorem catch_idle (v0 v1 v2 : Value) (w : World) : CallsD Tryz.prog 75 #[v0, v1, v2] .returning w fun e u' w' => e = .returned (.tuple #[]) ∧ u' = .returning ∧ w' = w := by
  refine callsD_of_wpS Tryz.func75 rfl fun c₀ cs hu => ?_
  apply wpS_seq
  apply wpS_region
  simp [wpOpsS, go_sem, recoverD, hu, Tryz.ntmps75, Exit.thenS]
  refine wpS_of_wp (wp_mono (Q := EndQ (fun w' => w' = w)) ?_ ?_)
  · clear hu
    change Code.wp _ _ _ { tmps := #[v0, v1, v2, .nilIface, undef, undef, .nilIface, undef, undef, undef, undef, undef, undef, undef, undef, undef, undef, undef, undef, undef], defers := [] } w
    go_wp2
    exact ⟨rfl, rfl, rfl⟩
  rintro e a' w' ⟨rfl, hd, rfl⟩
  exact ⟨hd, .returning, by rw [← hu], .tuple #[], by simp [results, Tryz.results75], rfl, rfl, rfl⟩

set_option maxRecDepth 100000 in
set_option maxHeartbeats 4000000 in
theorem catch_stop (g : Nat) (a er : Int) (w : World) (op n : Int) (nm : List UInt8) (A : Option Addr) (k c : Nat) (a0 e0 : Int) (h : ResBox w g op n nm A k c a0 e0) :
    CallsD Tryz.prog 75 #[.pointer (some ⟨g, 0, Option.none⟩), .pointer (some ⟨g + 1, 0, Option.none⟩), .pointer (some ⟨g + 2, 0, Option.none⟩)] (.panicking [stopP a er false]) w (CatchR w g a er) := by
  obtain ⟨⟨x0, x1, x2, x3, z0, z1, z2, z3⟩, ⟨p0, p1⟩, ⟨e0', e1⟩⟩ := h.cells
  have hlt := h.lt
  have HB := Lib.hid h
  clear h
  refine callsD_of_wpS Tryz.func75 rfl fun c₀ cs hu => ?_
  unfold stopP at hu
  apply wpS_seq
  apply wpS_region
  simp [wpOpsS, go_sem, recoverD, hu, Tryz.ntmps75, Exit.thenS]
  refine wpS_of_wp (wp_mono (Q := EndQ (fun w' => ResBox w' g 0 0 [] Option.none 0 0 a er ∧ Below g w w')) ?_ ?_)
  · clear hu
    change Code.wp _ _ _ { tmps := #[.pointer (some ⟨g, 0, Option.none⟩), .pointer (some ⟨g + 1, 0, Option.none⟩), .pointer (some ⟨g + 2, 0, Option.none⟩), .iface 128 (.agg #[.int .i64 a, .int .i64 er]), undef, undef, .iface 128 (.agg #[.int .i64 a, .int .i64 er]), undef, undef, undef, undef, undef, undef, undef, undef, undef, undef, undef, undef, undef], defers := [] } w
    go_wp2
    change Code.wp _ _ _ _ ((put6 w g 0 0 [] Option.none 0 0 0 6).alloc _)
    have hb6 := HB.out.put 0 0 [] Option.none 0 0 0 6
    have hbl := put6_below (w := w) (g := g) 0 0 [] Option.none 0 0 0 6
    have hws : (put6 w g 0 0 [] Option.none 0 0 0 6).heap.size = w.heap.size := by
      unfold put6
      rw [World.size_setCell, World.size_setCell, set4_size]
    generalize put6 w g 0 0 [] Option.none 0 0 0 6 = W at *
    rw [← hws]
    have hlt6 := hb6.lt
    have hlt5 : g + 1 < W.heap.size := by omega
    have HB6 := Lib.hid hb6
    have HBL := Lib.hid hbl
    clear x0 x1 x2 x3 z0 z1 z2 z3 p0 p1 e0' e1 HB hlt hws
    obtain ⟨-, ⟨p0, p1⟩, ⟨e0', e1⟩⟩ := hb6.cells
    clear hb6 hbl
    go_region
    all_goals
      go_wp2
      refine ⟨rfl, rfl, ?_, ?_⟩
      · exact (HB6.out.set2 a er).below (below_drew (box_below _ _))
      · exact below_drew (((HBL.out.setCell (p := ⟨g + 1, 0, Option.none⟩) (Nat.le_succ _) _).setCell (p := ⟨g + 2, 0, Option.none⟩) (Nat.le_add_right g 2) _).alloc (by rw [World.size_setCell, World.size_setCell]; omega) _)
  rintro e a' w' ⟨rfl, hd, h1, h2⟩
  exact ⟨hd, .panicking [stopP a er true], rfl, .tuple #[], by simp [results, Tryz.results75], rfl, rfl, h1, h2⟩
end Go.Proofs.YtcikenlflcofbaaGreatDoor
