/-
  A relay that the form reads is a relay in the words of the Relay text.
-/
import Derived.Test.YtfncnhgopbmabaaDoorOpen
import Derived.Test.YtfncnhgopbmabaaDoorRelay
namespace Go.Proofs.YtfncnhgopbmabaaDoor
open Go.RowKit

theorem cellsRelay : Tryd.prog.cellsOf 34 = 53 := by kernel_rfl
theorem cellsStr : Tryd.prog.cellsOf 9 = 1 := by kernel_rfl
theorem cellsInt : Tryd.prog.cellsOf 3 = 1 := by kernel_rfl
theorem cellsStrs : Tryd.prog.cellsOf 38 = 1 := by kernel_rfl
theorem cellsRules : Tryd.prog.cellsOf 29 = 1 := by kernel_rfl
theorem cellsSets : Tryd.prog.cellsOf 30 = 1 := by kernel_rfl
theorem cellsPubs : Tryd.prog.cellsOf 31 = 1 := by kernel_rfl
theorem cellsSubs : Tryd.prog.cellsOf 32 = 1 := by kernel_rfl
theorem cellsRule : Tryd.prog.cellsOf 76 = 2 := by kernel_rfl
theorem cellsSet : Tryd.prog.cellsOf 72 = 2 := by kernel_rfl
theorem cellsPub : Tryd.prog.cellsOf 95 = 3 := by kernel_rfl
theorem cellsSub : Tryd.prog.cellsOf 70 = 4 := by kernel_rfl
theorem tilesRelay : tiles Tryd.prog 6 34 = true := by kernel_rfl

theorem two_of {l : List Value} (h : l.length = 2) : ∃ a b, l = [a, b] := by
  match l, h with
  | [a, b], _ => exact ⟨a, b, rfl⟩
theorem three_of {l : List Value} (h : l.length = 3) : ∃ a b c, l = [a, b, c] := by
  match l, h with
  | [a, b, c], _ => exact ⟨a, b, c, rfl⟩
theorem four_of {l : List Value} (h : l.length = 4) : ∃ a b c d, l = [a, b, c, d] := by
  match l, h with
  | [a, b, c, d], _ => exact ⟨a, b, c, d, rfl⟩

section
variable {H : Type} {enc : TypeId × Value → H} {w : World} {base : Nat} {spare : Nat → Bool} {held : Bool}

theorem strs_trod {fuel : Nat} {cs : List Value} {x : DataW H × List MemPlace} (h : DataW.trod enc Tryd.prog w base spare held fuel 38 cs = some x) : ∃ zs, SliceOf StrC 1 w w.heap.size cs zs := by
  refine sliceOf_trod (by decide) Tryd.underlying38 cellsStr (fun n ds y _ hy => ?_) h
  obtain ⟨s, rfl, _, hs⟩ := DataW.trod_string Tryd.underlying9 hy
  exact ⟨s, rfl, hs⟩

theorem ruleC_trod {fuel : Nat} {cs : List Value} {x : DataW H × List MemPlace} (h : DataW.trod enc Tryd.prog w base spare held fuel 76 cs = some x) : ∃ z, RuleC w w.heap.size cs z := by
  obtain ⟨a, b, rfl⟩ := two_of ((trod_len Tryd.underlying76 h).trans cellsRule)
  obtain ⟨n0, v0, y0, e0, t0⟩ := field_one Tryd.underlying76 h 0 rfl cellsStr (by rw [cellsRule]; decide)
  obtain ⟨n1, v1, y1, e1, t1⟩ := field_one Tryd.underlying76 h 1 rfl cellsStr (by rw [cellsRule]; decide)
  cases e0; cases e1
  obtain ⟨s0, p0, _, q0⟩ := DataW.trod_string Tryd.underlying9 t0
  obtain ⟨s1, p1, _, q1⟩ := DataW.trod_string Tryd.underlying9 t1
  cases p0; cases p1
  exact ⟨(s0, s1), rfl, q0, q1⟩
theorem subC_trod {fuel : Nat} {cs : List Value} {x : DataW H × List MemPlace} (h : DataW.trod enc Tryd.prog w base spare held fuel 70 cs = some x) : ∃ z, SubC w w.heap.size cs z := by
  obtain ⟨a, b, c, d, rfl⟩ := four_of ((trod_len Tryd.underlying70 h).trans cellsSub)
  obtain ⟨n0, v0, y0, e0, t0⟩ := field_one Tryd.underlying70 h 0 rfl cellsStr (by rw [cellsSub]; decide)
  obtain ⟨n1, v1, y1, e1, t1⟩ := field_one Tryd.underlying70 h 1 rfl cellsStr (by rw [cellsSub]; decide)
  obtain ⟨n2, v2, y2, e2, t2⟩ := field_one Tryd.underlying70 h 2 rfl cellsStr (by rw [cellsSub]; decide)
  obtain ⟨n3, v3, y3, e3, t3⟩ := field_one Tryd.underlying70 h 3 rfl cellsStr (by rw [cellsSub]; decide)
  cases e0; cases e1; cases e2; cases e3
  obtain ⟨s0, p0, _, q0⟩ := DataW.trod_string Tryd.underlying9 t0
  obtain ⟨s1, p1, _, q1⟩ := DataW.trod_string Tryd.underlying9 t1
  obtain ⟨s2, p2, _, q2⟩ := DataW.trod_string Tryd.underlying9 t2
  obtain ⟨s3, p3, _, q3⟩ := DataW.trod_string Tryd.underlying9 t3
  cases p0; cases p1; cases p2; cases p3
  exact ⟨⟨s0, s1, s2, s3⟩, rfl, q0, q1, q2, q3⟩
theorem pubC_trod {fuel : Nat} {cs : List Value} {x : DataW H × List MemPlace} (h : DataW.trod enc Tryd.prog w base spare held fuel 95 cs = some x) : ∃ z, PubC w w.heap.size cs z := by
  obtain ⟨a, b, c, rfl⟩ := three_of ((trod_len Tryd.underlying95 h).trans cellsPub)
  obtain ⟨n0, v0, y0, e0, t0⟩ := field_one Tryd.underlying95 h 0 rfl cellsStr (by rw [cellsPub]; decide)
  obtain ⟨n1, v1, y1, e1, t1⟩ := field_one Tryd.underlying95 h 1 rfl cellsInt (by rw [cellsPub]; decide)
  obtain ⟨n2, v2, y2, e2, t2⟩ := field_one Tryd.underlying95 h 2 rfl cellsInt (by rw [cellsPub]; decide)
  cases e0; cases e1; cases e2
  obtain ⟨s0, p0, _, q0⟩ := DataW.trod_string Tryd.underlying9 t0
  obtain ⟨s1, p1, _, q1⟩ := DataW.trod_int Tryd.underlying3 t1
  obtain ⟨s2, p2, _, q2⟩ := DataW.trod_int Tryd.underlying3 t2
  cases p0; cases p1; cases p2
  exact ⟨s0, _, _, rfl, q0⟩
theorem setC_trod {fuel : Nat} {cs : List Value} {x : DataW H × List MemPlace} (h : DataW.trod enc Tryd.prog w base spare held fuel 72 cs = some x) : ∃ z, SetC w w.heap.size cs z := by
  obtain ⟨a, b, rfl⟩ := two_of ((trod_len Tryd.underlying72 h).trans cellsSet)
  obtain ⟨n0, v0, y0, e0, t0⟩ := field_one Tryd.underlying72 h 0 rfl cellsStr (by rw [cellsSet]; decide)
  obtain ⟨n1, v1, y1, e1, t1⟩ := field_one Tryd.underlying72 h 1 rfl cellsStrs (by rw [cellsSet]; decide)
  cases e0; cases e1
  obtain ⟨s0, p0, _, q0⟩ := DataW.trod_string Tryd.underlying9 t0
  obtain ⟨zs, hz⟩ := strs_trod t1
  cases p0
  exact ⟨(s0, zs), _, rfl, q0, hz⟩

theorem relayC_trod {fuel : Nat} {cs : List Value} {x : DataW H × List MemPlace} (h : DataW.trod enc Tryd.prog w base spare held fuel 34 cs = some x) : ∃ r, RelayC w w.heap.size cs r := by
  have hlen := (trod_len Tryd.underlying34 h).trans cellsRelay
  have hone := trod_one _ _ _ _ _ tilesRelay h
  obtain ⟨n0, v0, y0, e0, t0⟩ := field_one Tryd.underlying34 h 0 rfl cellsStr (by rw [cellsRelay]; decide)
  obtain ⟨n1, v1, y1, e1, t1⟩ := field_one Tryd.underlying34 h 1 rfl cellsInt (by rw [cellsRelay]; decide)
  obtain ⟨n2, v2, y2, e2, t2⟩ := field_one Tryd.underlying34 h 22 rfl cellsRules (by rw [cellsRelay]; decide)
  obtain ⟨n3, v3, y3, e3, t3⟩ := field_one Tryd.underlying34 h 23 rfl cellsSets (by rw [cellsRelay]; decide)
  obtain ⟨n4, v4, y4, e4, t4⟩ := field_one Tryd.underlying34 h 24 rfl cellsPubs (by rw [cellsRelay]; decide)
  obtain ⟨n5, v5, y5, e5, t5⟩ := field_one Tryd.underlying34 h 25 rfl cellsSubs (by rw [cellsRelay]; decide)
  obtain ⟨s0, p0, _, q0⟩ := DataW.trod_string Tryd.underlying9 t0
  obtain ⟨s1, p1, _, q1⟩ := DataW.trod_int Tryd.underlying3 t1
  obtain ⟨rs, hrs⟩ := sliceOf_trod (R := RuleC) (by decide) Tryd.underlying29 cellsRule (fun n ds y _ hy => ruleC_trod hy) t2
  obtain ⟨ss, hss⟩ := sliceOf_trod (R := SetC) (by decide) Tryd.underlying30 cellsSet (fun n ds y _ hy => setC_trod hy) t3
  obtain ⟨ps, hps⟩ := sliceOf_trod (R := PubC) (by decide) Tryd.underlying31 cellsPub (fun n ds y _ hy => pubC_trod hy) t4
  obtain ⟨us, hus⟩ := sliceOf_trod (R := SubC) (by decide) Tryd.underlying32 cellsSub (fun n ds y _ hy => subC_trod hy) t5
  cases p0; cases p1
  exact ⟨⟨s0, s1, rs, ss, ps, us⟩, hlen, hone, e0, q0, e1, ⟨_, e2, hrs⟩, ⟨_, e3, hss⟩, ⟨_, e4, hps⟩, ⟨_, e5, hus⟩⟩
end
end Go.Proofs.YtfncnhgopbmabaaDoor
