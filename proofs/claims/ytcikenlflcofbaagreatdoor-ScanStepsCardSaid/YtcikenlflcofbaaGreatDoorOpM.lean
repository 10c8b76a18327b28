/-
  Programs and memories that the form reads are such in the words of the other texts.
-/
import Derived.Test.YtcikenlflcofbaaGreatDoorOpI
import Derived.Test.YtcikenlflcofbaaGreatDoorFit
namespace Go.Proofs.YtcikenlflcofbaaGreatDoor
open Go.RowKit Go.Deep

theorem cellsCl : Tryz.prog.cellsOf 89 = 2 := by kernel_rfl
theorem cellsIn : Tryz.prog.cellsOf 76 = 2 := by kernel_rfl
theorem cellsCs : Tryz.prog.cellsOf 83 = 2 := by kernel_rfl
theorem cellsBoo : Tryz.prog.cellsOf 4 = 1 := by kernel_rfl
theorem cellsPg : Tryz.prog.cellsOf 35 = 4 := by kernel_rfl
theorem cellsMm : Tryz.prog.cellsOf 53 = 2 := by kernel_rfl
theorem cellsSl0 : Tryz.prog.cellsOf 23 = 1 := by kernel_rfl
theorem cellsSl1 : Tryz.prog.cellsOf 31 = 1 := by kernel_rfl
theorem cellsSl2 : Tryz.prog.cellsOf 32 = 1 := by kernel_rfl
theorem cellsSl3 : Tryz.prog.cellsOf 33 = 1 := by kernel_rfl
theorem cellsSl4 : Tryz.prog.cellsOf 43 = 1 := by kernel_rfl
theorem cellsSl5 : Tryz.prog.cellsOf 38 = 1 := by kernel_rfl
def NmCs (w : World) (_ : Nat) (cs : List Value) (s : List UInt8) : Prop := NmC w (fun _ => True) cs s
def ClCs (w : World) (_ : Nat) (cs : List Value) (s : Cl) : Prop := CeC w (fun _ => True) cs s
def InCs (w : World) (_ : Nat) (cs : List Value) (s : Ins) : Prop := InC w (fun _ => True) cs s
def CsCs (w : World) (_ : Nat) (cs : List Value) (s : Cs) : Prop := CsC w (fun _ => True) cs s
section
variable {H : Type} {enc : TypeId × Value → H} {w : World} {base : Nat} {spare : Nat → Bool} {held : Bool}
theorem nms_trod {fuel : Nat} {cs : List Value} {x : DataW H × List MemPlace} (h : DataW.trod enc Tryz.prog w base spare held fuel 31 cs = some x) :
    ∃ (A : Option Addr) (c : Nat) (es : List (List UInt8)), cs = [.slice A es.length c] ∧ es.length ≤ c ∧ c ≤ maxLen ∧ Rw NmC 1 w (fun b => b < w.heap.size) A es.length es := by
  obtain ⟨es, A, c, rfl, h1, h2, h3⟩ := sliceOf_trod (R := NmCs) (by decide) Tryz.underlying31 cellsStr (fun n ds y _ hy => by
    obtain ⟨s, p0, _, w0⟩ := DataW.trod_string Tryz.underlying9 hy
    obtain ⟨⟨nm⟩⟩ := s
    exact ⟨nm, p0, by simpa [ByteArray.size] using w0⟩) h
  exact ⟨A, c, es, rfl, h1, h2, rw_of_rws h3 fun _ _ q => q⟩
theorem two_ints {t : TypeId} {fs : Array Field} {f0 f1 : Field} (hu : Tryz.prog.underlying t = some (.struct fs)) (hc : Tryz.prog.cellsOf t = 2) (e0 : fs[0]? = some f0) (e1 : fs[1]? = some f1) (o0 : f0.offset = 0) (o1 : f1.offset = 1) (t0 : f0.type = 3) (t1 : f1.type = 3)
    {fuel : Nat} {cs : List Value} {x : DataW H × List MemPlace} (h : DataW.trod enc Tryz.prog w base spare held fuel t cs = some x) : ∃ a b, cs = [.int .i64 a, .int .i64 b] := by
  obtain ⟨a, b, rfl⟩ := two_cells ((trod_len hu h).trans hc)
  obtain ⟨n0, v0, y0, g0, h0⟩ := field_one hu h 0 e0 (by rw [t0]; exact cellsInt) (by rw [o0, hc]; decide)
  obtain ⟨n1, v1, y1, g1, h1⟩ := field_one hu h 1 e1 (by rw [t1]; exact cellsInt) (by rw [o1, hc]; decide)
  rw [o0] at g0
  rw [o1] at g1
  rw [t0] at h0
  rw [t1] at h1
  cases g0; cases g1
  obtain ⟨n, p0, _, _⟩ := DataW.trod_int Tryz.underlying3 h0
  obtain ⟨k, p1, _, _⟩ := DataW.trod_int Tryz.underlying3 h1
  cases p0; cases p1
  exact ⟨n, k, rfl⟩
theorem cls_trod {fuel : Nat} {cs : List Value} {x : DataW H × List MemPlace} (h : DataW.trod enc Tryz.prog w base spare held fuel 32 cs = some x) :
    ∃ (A : Option Addr) (c : Nat) (es : List Cl), cs = [.slice A es.length c] ∧ es.length ≤ c ∧ c ≤ maxLen ∧ Rw CeC 2 w (fun b => b < w.heap.size) A es.length es := by
  obtain ⟨es, A, c, rfl, h1, h2, h3⟩ := sliceOf_trod (R := ClCs) (by decide) Tryz.underlying32 cellsCl (fun n ds y _ hy => by
    obtain ⟨a, b, rfl⟩ := two_ints Tryz.underlying89 cellsCl rfl rfl rfl rfl rfl rfl hy
    exact ⟨⟨a, b⟩, rfl⟩) h
  exact ⟨A, c, es, rfl, h1, h2, rw_of_rws h3 fun _ _ q => q⟩
theorem ins_trod {fuel : Nat} {cs : List Value} {x : DataW H × List MemPlace} (h : DataW.trod enc Tryz.prog w base spare held fuel 33 cs = some x) :
    ∃ (A : Option Addr) (c : Nat) (es : List Ins), cs = [.slice A es.length c] ∧ es.length ≤ c ∧ c ≤ maxLen ∧ Rw InC 2 w (fun b => b < w.heap.size) A es.length es := by
  obtain ⟨es, A, c, rfl, h1, h2, h3⟩ := sliceOf_trod (R := InCs) (by decide) Tryz.underlying33 cellsIn (fun n ds y _ hy => by
    obtain ⟨a, b, rfl⟩ := two_ints Tryz.underlying76 cellsIn rfl rfl rfl rfl rfl rfl hy
    exact ⟨⟨a, b⟩, rfl⟩) h
  exact ⟨A, c, es, rfl, h1, h2, rw_of_rws h3 fun _ _ q => q⟩
theorem css_trod {fuel : Nat} {cs : List Value} {x : DataW H × List MemPlace} (h : DataW.trod enc Tryz.prog w base spare held fuel 43 cs = some x) :
    ∃ (A : Option Addr) (c : Nat) (es : List Cs), cs = [.slice A es.length c] ∧ es.length ≤ c ∧ c ≤ maxLen ∧ Rw CsC 2 w (fun b => b < w.heap.size) A es.length es := by
  obtain ⟨es, A, c, rfl, h1, h2, h3⟩ := sliceOf_trod (R := CsCs) (by decide) Tryz.underlying43 cellsCs (fun n ds y _ hy => by
    obtain ⟨a, b, rfl⟩ := two_cells ((trod_len Tryz.underlying83 hy).trans cellsCs)
    obtain ⟨n0, v0, y0, g0, h0⟩ := field_one Tryz.underlying83 hy 0 rfl cellsBoo (by rw [cellsCs]; decide)
    obtain ⟨n1, v1, y1, g1, h1⟩ := field_one Tryz.underlying83 hy 1 rfl cellsInt (by rw [cellsCs]; decide)
    cases g0; cases g1
    obtain ⟨u, p0, _⟩ := DataW.trod_bool Tryz.underlying4 h0
    obtain ⟨k, p1, _, _⟩ := DataW.trod_int Tryz.underlying3 h1
    cases p0; cases p1
    exact ⟨⟨u, k⟩, rfl⟩) h
  exact ⟨A, c, es, rfl, h1, h2, rw_of_rws h3 fun _ _ q => q⟩
theorem pg_trod {fuel : Nat} {cs : List Value} {x : DataW H × List MemPlace} (h : DataW.trod enc Tryz.prog w base spare held fuel 35 cs = some x) :
    ∃ (p : Pg) (l : Pl), cs = [.slice l.A1 p.ins.length l.c1, .slice l.A2 p.rls.length l.c2, .slice l.A3 p.cells.length l.c3, .slice l.A4 p.code.length l.c4] ∧ PgI w (Old w) p l := by
  obtain ⟨a, b, c, d, rfl⟩ := four_of ((trod_len Tryz.underlying35 h).trans cellsPg)
  obtain ⟨n0, v0, y0, g0, h0⟩ := field_one Tryz.underlying35 h 0 rfl cellsSl0 (by rw [cellsPg]; decide)
  obtain ⟨n1, v1, y1, g1, h1⟩ := field_one Tryz.underlying35 h 1 rfl cellsSl1 (by rw [cellsPg]; decide)
  obtain ⟨n2, v2, y2, g2, h2⟩ := field_one Tryz.underlying35 h 2 rfl cellsSl2 (by rw [cellsPg]; decide)
  obtain ⟨n3, v3, y3, g3, h3⟩ := field_one Tryz.underlying35 h 3 rfl cellsSl3 (by rw [cellsPg]; decide)
  cases g0; cases g1; cases g2; cases g3
  obtain ⟨A1, c1, e1, p1, l1, m1, r1⟩ := sgs_trod h0
  obtain ⟨A2, c2, e2, p2, l2, m2, r2⟩ := nms_trod h1
  obtain ⟨A3, c3, e3, p3, l3, m3, r3⟩ := cls_trod h2
  obtain ⟨A4, c4, e4, p4, l4, m4, r4⟩ := ins_trod h3
  cases p1; cases p2; cases p3; cases p4
  exact ⟨⟨e1, e2, e3, e4⟩, ⟨A1, c1, A2, c2, A3, c3, A4, c4⟩, rfl, l1, m1, r1, l2, m2, r2, l3, m3, r3, l4, m4, r4⟩
theorem mm_trod {fuel : Nat} {cs : List Value} {x : DataW H × List MemPlace} (h : DataW.trod enc Tryz.prog w base spare held fuel 53 cs = some x) :
    ∃ (m : Mm) (l : Ml), cs = [.slice l.A1 m.vals.length l.c1, .slice l.A2 m.cells.length l.c2] ∧ MmI w (Old w) m l := by
  obtain ⟨a, b, rfl⟩ := two_cells ((trod_len Tryz.underlying53 h).trans cellsMm)
  obtain ⟨n0, v0, y0, g0, h0⟩ := field_one Tryz.underlying53 h 0 rfl cellsSl5 (by rw [cellsMm]; decide)
  obtain ⟨n1, v1, y1, g1, h1⟩ := field_one Tryz.underlying53 h 1 rfl cellsSl4 (by rw [cellsMm]; decide)
  cases g0; cases g1
  obtain ⟨A1, c1, e1, p1, l1, m1, r1⟩ := ints_trod h0
  obtain ⟨A2, c2, e2, p2, l2, m2, r2⟩ := css_trod h1
  cases p1; cases p2
  exact ⟨⟨e1, e2⟩, ⟨A1, c1, A2, c2⟩, rfl, l1, m1, r1, l2, m2, r2⟩
end
end Go.Proofs.YtcikenlflcofbaaGreatDoor
