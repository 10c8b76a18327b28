/-
  Events, lists of events and logs that the form reads are such in the words of the other texts; the table of powers of ten out of a row's condition.
-/
import Derived.Test.YtcoablindoknpaaDoorOpen
import Derived.Test.YtcoablindoknpaaDoorText
import Derived.Test.YtcoablindoknpaaDoorRec
import Derived.LaidSub

namespace Go.Proofs.YtcoablindoknpaaDoor
open Go.RowKit Go.Deep

theorem cellsInt : Tryd.prog.cellsOf 3 = 1 := by kernel_rfl
theorem cellsBool : Tryd.prog.cellsOf 4 = 1 := by kernel_rfl
theorem cellsEvent : Tryd.prog.cellsOf 26 = 5 := by kernel_rfl
theorem cellsEvents : Tryd.prog.cellsOf 22 = 1 := by kernel_rfl
theorem cellsLog : Tryd.prog.cellsOf 24 = 4 := by kernel_rfl
theorem five_of {l : List Value} (h : l.length = 5) : ∃ a b c d e, l = [a, b, c, d, e] := by
  match l, h with
  | [a, b, c, d, e], _ => exact ⟨a, b, c, d, e, rfl⟩
theorem four_of {l : List Value} (h : l.length = 4) : ∃ a b c d, l = [a, b, c, d] := by
  match l, h with
  | [a, b, c, d], _ => exact ⟨a, b, c, d, rfl⟩

section
variable {H : Type} {enc : TypeId × Value → H} {w : World} {base : Nat} {spare : Nat → Bool} {held : Bool}
theorem ev_trod {fuel : Nat} {cs : List Value} {x : DataW H × List MemPlace} (h : DataW.trod enc Tryd.prog w base spare held fuel 26 cs = some x) : ∃ z, EvC w w.heap.size cs z := by
  obtain ⟨a, b, c, d, e, rfl⟩ := five_of ((trod_len Tryd.underlying26 h).trans cellsEvent)
  obtain ⟨n0, v0, y0, e0, t0⟩ := field_one Tryd.underlying26 h 0 rfl cellsInt (by rw [cellsEvent]; decide)
  obtain ⟨n1, v1, y1, e1, t1⟩ := field_one Tryd.underlying26 h 1 rfl cellsInt (by rw [cellsEvent]; decide)
  obtain ⟨n2, v2, y2, e2, t2⟩ := field_one Tryd.underlying26 h 2 rfl cellsInt (by rw [cellsEvent]; decide)
  obtain ⟨n3, v3, y3, e3, t3⟩ := field_one Tryd.underlying26 h 3 rfl cellsBool (by rw [cellsEvent]; decide)
  obtain ⟨n4, v4, y4, e4, t4⟩ := field_one Tryd.underlying26 h 4 rfl cellsInt (by rw [cellsEvent]; decide)
  cases e0; cases e1; cases e2; cases e3; cases e4
  obtain ⟨s0, p0, _, _⟩ := DataW.trod_int Tryd.underlying3 t0
  obtain ⟨s1, p1, _, _⟩ := DataW.trod_int Tryd.underlying3 t1
  obtain ⟨s2, p2, _, _⟩ := DataW.trod_int Tryd.underlying3 t2
  obtain ⟨s3, p3, _⟩ := DataW.trod_bool Tryd.underlying4 t3
  obtain ⟨s4, p4, _, _⟩ := DataW.trod_int Tryd.underlying3 t4
  cases p0; cases p1; cases p2; cases p3; cases p4
  exact ⟨⟨s0, s1, s2, s3, s4⟩, rfl⟩
/-- A slice whose nil has no capacity. -/
theorem nil_cap {t e : TypeId} {fuel : Nat} {A : Option Addr} {n c : Nat} {x : DataW H × List MemPlace} (ht : Tryd.prog.underlying t = some (.slice e)) (h : DataW.trod enc Tryd.prog w base spare held fuel t [.slice A n c] = some x) : A = Option.none → c = 0 := by
  intro hA
  subst hA
  rcases open_slice ht h with ⟨h1, _⟩ | ⟨a, len, cap, m, n, D, Pl, h1, _⟩
  · cases h1; rfl
  · cases h1
theorem evs_trod {fuel : Nat} {cs : List Value} {x : DataW H × List MemPlace} (h : DataW.trod enc Tryd.prog w base spare held fuel 22 cs = some x) :
    ∃ (A : Option Addr) (c : Nat) (es : List Ev), cs = [.slice A es.length c] ∧ es.length ≤ c ∧ c ≤ maxLen ∧ (A = Option.none → c = 0) ∧ Rws EvC 5 w w.heap.size A es.length es := by
  obtain ⟨es, A, c, rfl, h1, h2, h3⟩ := sliceOf_trod (R := EvC) (by decide) Tryd.underlying22 cellsEvent (fun n ds y _ hy => ev_trod hy) h
  exact ⟨A, c, es, rfl, h1, h2, nil_cap Tryd.underlying22 h, h3⟩
theorem log_trod {fuel : Nat} {cs : List Value} {x : DataW H × List MemPlace} (h : DataW.trod enc Tryd.prog w base spare held fuel 24 cs = some x) :
    ∃ (A : Option Addr) (c : Nat) (g : LogM), cs = [.int .i64 g.room, .slice A g.events.length c, .int .i64 g.lost, .int .i64 g.floor] ∧ g.events.length ≤ c ∧ c ≤ maxLen ∧ (A = Option.none → c = 0) ∧ Rws EvC 5 w w.heap.size A g.events.length g.events := by
  obtain ⟨a, b, c, d, rfl⟩ := four_of ((trod_len Tryd.underlying24 h).trans cellsLog)
  obtain ⟨n0, v0, y0, e0, t0⟩ := field_one Tryd.underlying24 h 0 rfl cellsInt (by rw [cellsLog]; decide)
  obtain ⟨n1, v1, y1, e1, t1⟩ := field_one Tryd.underlying24 h 1 rfl cellsEvents (by rw [cellsLog]; decide)
  obtain ⟨n2, v2, y2, e2, t2⟩ := field_one Tryd.underlying24 h 2 rfl cellsInt (by rw [cellsLog]; decide)
  obtain ⟨n3, v3, y3, e3, t3⟩ := field_one Tryd.underlying24 h 3 rfl cellsInt (by rw [cellsLog]; decide)
  cases e0; cases e1; cases e2; cases e3
  obtain ⟨s0, p0, _, _⟩ := DataW.trod_int Tryd.underlying3 t0
  obtain ⟨A, cc, es, p1, h1, h2, h3, h4⟩ := evs_trod t1
  obtain ⟨s2, p2, _, _⟩ := DataW.trod_int Tryd.underlying3 t2
  obtain ⟨s3, p3, _, _⟩ := DataW.trod_int Tryd.underlying3 t3
  cases p0; cases p1; cases p2; cases p3
  exact ⟨A, cc, ⟨s0, es, s2, s3⟩, rfl, h1, h2, h3, h4⟩
end

theorem typePow : (Tryd.prog.globals[1]?).map (·.type) = some 111 := by kernel_rfl
theorem cellsU64 : Tryd.prog.cellsOf 102 = 1 := by kernel_rfl
theorem cellsPow : Tryd.prog.cellsOf 111 = 20 := by kernel_rfl
def keepPow (x : String × DataW Unit) : Bool := x.1 == "internal/strconv.uint64pow10"
theorem tab_of {W : World} {l : List (String × DataW Unit)} (h : laidMetH Tryd.prog l W) (hl : l.filter keepPow = [("internal/strconv.uint64pow10", Lib.tabData .u64 Lib.pow10Tab)]) : Tab W := by
  have h1 := h.filter keepPow
  rw [hl] at h1
  have h1 := (laidMetH_iff.1 h1).1
  have h2 := Lib.tabIs_of_head globalPow typePow Tryd.underlying111 Tryd.underlying102 cellsU64 cellsPow h1
  refine ⟨h2, ?_⟩
  unfold Lib.TabIs World.var? at h2
  rw [globalPow] at h2
  simp only [Option.bind_some] at h2
  rcases Nat.lt_or_ge 1 W.heap.size with hlt | hge
  · exact hlt
  · rw [Array.getElem?_eq_none hge] at h2
    cases h2
end Go.Proofs.YtcoablindoknpaaDoor
