/-
  Points and lists of bools that the form reads.
-/
import Derived.Test.YtcoablindoknpaaDoorOpenEv
import Derived.Test.YtcoablindoknpaaDoorChangesL
namespace Go.Proofs.YtcoablindoknpaaDoor
open Go.RowKit Go.Deep
theorem cellsPoint : Tryd.prog.cellsOf 43 = 3 := by kernel_rfl
theorem three_of {l : List Value} (h : l.length = 3) : ∃ a b c, l = [a, b, c] := by
  match l, h with
  | [a, b, c], _ => exact ⟨a, b, c, rfl⟩
section
variable {H : Type} {enc : TypeId × Value → H} {w : World} {base : Nat} {spare : Nat → Bool} {held : Bool}
theorem point_trod {fuel : Nat} {cs : List Value} {x : DataW H × List MemPlace} (h : DataW.trod enc Tryd.prog w base spare held fuel 43 cs = some x) : ∃ d q t, cs = [.int .i64 d, .int .i64 q, .int .i64 t] := by
  obtain ⟨a, b, c, rfl⟩ := three_of ((trod_len Tryd.underlying43 h).trans cellsPoint)
  obtain ⟨n0, v0, y0, e0, t0⟩ := field_one Tryd.underlying43 h 0 rfl cellsInt (by rw [cellsPoint]; decide)
  obtain ⟨n1, v1, y1, e1, t1⟩ := field_one Tryd.underlying43 h 1 rfl cellsInt (by rw [cellsPoint]; decide)
  obtain ⟨n2, v2, y2, e2, t2⟩ := field_one Tryd.underlying43 h 2 rfl cellsInt (by rw [cellsPoint]; decide)
  cases e0; cases e1; cases e2
  obtain ⟨s0, p0, _, _⟩ := DataW.trod_int Tryd.underlying3 t0
  obtain ⟨s1, p1, _, _⟩ := DataW.trod_int Tryd.underlying3 t1
  obtain ⟨s2, p2, _, _⟩ := DataW.trod_int Tryd.underlying3 t2
  cases p0; cases p1; cases p2
  exact ⟨s0, s1, s2, rfl⟩
theorem bools_trod {fuel : Nat} {cs : List Value} {x : DataW H × List MemPlace} (h : DataW.trod enc Tryd.prog w base spare held fuel 44 cs = some x) :
    ∃ (A : Option Addr) (c : Nat) (bs : List Bool), cs = [.slice A bs.length c] ∧ bs.length ≤ c ∧ c ≤ maxLen ∧ Rws BoolC 1 w w.heap.size A bs.length bs := by
  obtain ⟨bs, A, c, rfl, h1, h2, h3⟩ := sliceOf_trod (R := BoolC) (by decide) Tryd.underlying44 cellsBool (fun n ds y _ hy => by obtain ⟨b, hb, _⟩ := DataW.trod_bool Tryd.underlying4 hy; exact ⟨b, hb⟩) h
  exact ⟨A, c, bs, rfl, h1, h2, h3⟩
end
end Go.Proofs.YtcoablindoknpaaDoor
