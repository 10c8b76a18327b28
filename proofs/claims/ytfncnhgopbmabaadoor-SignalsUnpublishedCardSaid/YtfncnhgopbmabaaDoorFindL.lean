/-
  The law SignalsFinds: Find returns the specified place or error for any subscription of any configuration.
-/
import Derived.Test.YtfncnhgopbmabaaDoorFindC
namespace Go.Proofs.YtfncnhgopbmabaaDoor
open Go.RowKit

/-- The box of a configuration in block g. -/
structure CB (W : World) (g : Nat) (a0 a1 a2 a3 a4 v : Value) : Prop where
  lt : g < W.heap.size
  c0 : W.cell? ⟨g, 0, Option.none⟩ = some a0
  c1 : W.cell? ⟨g, 1, Option.none⟩ = some a1
  c2 : W.cell? ⟨g, 2, Option.none⟩ = some a2
  c3 : W.cell? ⟨g, 3, Option.none⟩ = some a3
  c4 : W.cell? ⟨g, 4, Option.none⟩ = some a4
  c5 : W.cell? ⟨g, 5, Option.none⟩ = some v
theorem CB.below {W W' : World} {g B : Nat} {a0 a1 a2 a3 a4 v : Value} (h : CB W g a0 a1 a2 a3 a4 v) (hb : Below B W W') (hg : g < B) : CB W' g a0 a1 a2 a3 a4 v :=
  ⟨Nat.lt_of_lt_of_le h.lt hb.size, (hb.cell (p := ⟨g, 0, Option.none⟩) hg).trans h.c0, (hb.cell (p := ⟨g, 1, Option.none⟩) hg).trans h.c1, (hb.cell (p := ⟨g, 2, Option.none⟩) hg).trans h.c2,
    (hb.cell (p := ⟨g, 3, Option.none⟩) hg).trans h.c3, (hb.cell (p := ⟨g, 4, Option.none⟩) hg).trans h.c4, (hb.cell (p := ⟨g, 5, Option.none⟩) hg).trans h.c5⟩
theorem CB.new (w : World) (a0 a1 a2 a3 a4 v : Value) (t : TypeId) : CB (w.alloc (Obj.cells #[a0, a1, a2, a3, a4, v] t)) w.heap.size a0 a1 a2 a3 a4 v :=
  ⟨by simp, by go_simp, by go_simp, by go_simp, by go_simp, by go_simp, by go_simp⟩

set_option maxRecDepth 100000 in
set_option maxHeartbeats 4000000 in
theorem finds_any (a0 a1 a2 a3 a4 : Value) (A : Option Addr) (c B : Nat) (rs : List RelayM) (relay sub : Int) (w : World) (hB : B ≤ w.heap.size) (h : Conf w B a0 a1 a2 a3 a4 A c rs) :
    Calls Tryd.prog 4 #[.agg #[a0, a1, a2, a3, a4, .slice A rs.length c], .int .i64 relay, .int .i64 sub] w (RetBool true w) := by
  have hbox := box_below w (Obj.cells #[a0, a1, a2, a3, a4, .slice A rs.length c] 49)
  have CB0 := CB.new w a0 a1 a2 a3 a4 (.slice A rs.length c) 49
  have H := Lib.hid h
  clear h
  go_enter Tryd.func4, Tryd.ntmps4
  go_wp2_with fail
  refine (known_any _).mono ?_
  rintro e w1 ⟨rfl, hb1⟩
  have CB1 := CB0.below hb1 CB0.lt
  have hw1 := hbox.trans (hb1.mono (by simp))
  have hs1 := hw1.size
  clear hb1 CB0 hbox
  obtain ⟨-, q0, q1, q2, q3, q4, q5⟩ := id CB1
  go_wp2_with fail
  refine (clarge_any a0 a1 a2 a3 a4 A c B rs w1 (by omega) (H.out.mono (Nat.le_refl _) (hw1.mono hB))).mono ?_
  rintro e w2 ⟨b, hsm, rfl, hb2⟩
  have hw2 := hw1.trans (hb2.mono hs1)
  have CB2 := CB1.below hb2 CB1.lt
  have hs2 := hw2.size
  clear hb2 CB1 q0 q1 q2 q3 q4 q5
  cases b
  case true =>
    go_wp2
    go_ret
    exact ⟨rfl, hw2⟩
  have hS : SmallAll rs := hsm rfl
  have HS := Lib.hid hS
  clear hsm hS
  obtain ⟨-, q0, q1, q2, q3, q4, q5⟩ := id CB2
  go_wp2_with fail
  refine (Find_any a0 a1 a2 a3 a4 A c B rs relay sub w2 (by omega) (H.out.mono (Nat.le_refl _) (hw2.mono hB)) HS.out).mono ?_
  rintro e w3 ⟨rfl, hb3⟩
  have hw3 := hw2.trans (hb3.mono hs2)
  have CB3 := CB2.below hb3 CB2.lt
  have hs3 := hw3.size
  clear hb3 CB2 q0 q1 q2 q3 q4 q5
  generalize hp : FindP rs relay sub = p at *
  have HP := Lib.hid hp
  clear hp
  obtain ⟨hlt3, q0, q1, q2, q3, q4, q5⟩ := id CB3
  go_wp2_with fail
  have hw3' := hw3.alloc (by omega) (Obj.cells #[.int .i64 p.1, .int .i64 p.2.1, .int .i64 p.2.2.1] 52)
  refine (rFind_any a0 a1 a2 a3 a4 A c B rs relay sub _ (by simp; omega) (H.out.mono (Nat.le_refl _) (hw3'.mono hB)) HS.out).mono ?_
  rintro e w4 ⟨he, hb4⟩
  rw [HP.out] at he
  subst he
  have t0 := (hb4.cell (p := ⟨w3.heap.size, 0, Option.none⟩) (by simp)).trans (by go_simp : _ = some (.int .i64 p.1))
  have t1 := (hb4.cell (p := ⟨w3.heap.size, 1, Option.none⟩) (by simp)).trans (by go_simp : _ = some (.int .i64 p.2.1))
  have t2 := (hb4.cell (p := ⟨w3.heap.size, 2, Option.none⟩) (by simp)).trans (by go_simp : _ = some (.int .i64 p.2.2.1))
  have hw4 := hw3'.trans (hb4.mono (by simp; omega))
  have hs4 := hb4.size
  simp only [World.size_alloc] at hs4
  have hl4 : w3.heap.size < w4.heap.size := by omega
  clear q0 q1 q2 q3 q4 q5 hb4 hw3'
  go_wp2
  go_ret
  exact ⟨rfl, hw4.alloc (by omega) _⟩
end Go.Proofs.YtfncnhgopbmabaaDoor
