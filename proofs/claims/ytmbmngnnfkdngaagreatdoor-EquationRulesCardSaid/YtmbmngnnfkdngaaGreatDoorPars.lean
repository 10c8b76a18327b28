/-
  The parser's small parts: peek, take, need.
-/
import Derived.Test.YtmbmngnnfkdngaaGreatDoorProg
import Derived.Test.YtmbmngnnfkdngaaGreatDoorMem
namespace Go.Proofs.YtmbmngnnfkdngaaGreatDoor
open Go.RowKit

/-- A token's cells, field by field. -/
structure TB (w : World) (b o : Nat) (t : Tok) : Prop where
  c0 : w.cell? ⟨b, o, Option.none⟩ = some (.int .i64 t.kind)
  c1 : w.cell? ⟨b, o + 1, Option.none⟩ = some (.string ⟨t.text.toArray⟩)
  c2 : w.cell? ⟨b, o + 2, Option.none⟩ = some (.int .i64 t.pos)
  c3 : w.cell? ⟨b, o + 3, Option.none⟩ = some (.int .i64 t.n)
/-- The parser's variable at pb: its tokens, its place, the first late delay. -/
def ParCells (A : Option Addr) (c : Nat) (L : List Tok) (i : Nat) (late : Int) : Obj := .cells #[.slice A L.length c, .int .i64 i, .int .i64 late] 46 (0, 0)
structure PS (pb : Nat) (A : Option Addr) (c : Nat) (L : List Tok) (i : Nat) (late : Int) (w : World) : Prop where
  heap : w.heap[pb]? = some (ParCells A c L i late)
  toks : Rw TokC 4 w (fun b => b < w.heap.size ∧ b ≠ pb) A L.length L
  lt : i < L.length
  le : L.length ≤ 1000
  last : ∀ j, j < L.length → (tk L j).kind ≠ 0 → j + 1 < L.length
  fit : ∀ j, (Lit.int .i64 (tk L j).n).wf = true ∧ (tk L j).text.length ≤ maxLen
theorem PS.ltp {pb : Nat} {A : Option Addr} {c : Nat} {L : List Tok} {i : Nat} {late : Int} {w : World} (h : PS pb A c L i late w) : pb < w.heap.size := (Array.getElem?_eq_some_iff.1 h.heap).1
theorem PS.cells {pb : Nat} {A : Option Addr} {c : Nat} {L : List Tok} {i : Nat} {late : Int} {w : World} (h : PS pb A c L i late w) :
    w.cell? ⟨pb, 0, Option.none⟩ = some (.slice A L.length c) ∧ w.cell? ⟨pb, 1, Option.none⟩ = some (.int .i64 i) ∧ w.cell? ⟨pb, 2, Option.none⟩ = some (.int .i64 late) ∧
    w.frozen? ⟨pb, 1, Option.none⟩ = false ∧ w.frozen? ⟨pb, 2, Option.none⟩ = false := by
  have hh : w.heap[pb]? = some (.cells #[.slice A L.length c, .int .i64 i, .int .i64 late] 46 (0, 0)) := h.heap
  exact ⟨by simp [World.cell?, hh], by simp [World.cell?, hh], by simp [World.cell?, hh], Lib.frozen_of_heap hh 1, Lib.frozen_of_heap hh 2⟩
theorem PS.tok {pb : Nat} {A : Option Addr} {c : Nat} {L : List Tok} {i : Nat} {late : Int} {w : World} (h : PS pb A c L i late w) :
    ∃ b o, A = some ⟨b, o, Option.none⟩ ∧ b < w.heap.size ∧ b ≠ pb ∧ TB w b (o + i * 4) (tk L i) := by
  obtain ⟨b, o, cs, x, e, ⟨hb, hne⟩, hx, _, hR, hat⟩ := h.toks.at_ h.lt
  obtain rfl : cs = _ := hR
  have ht : tk L i = x := by unfold tk; rw [List.getD_eq_getElem?_getD, hx]; rfl
  rw [ht]
  exact ⟨b, o, e, hb, hne, by simpa using hat 0 _ rfl, hat 1 _ rfl, hat 2 _ rfl, hat 3 _ rfl⟩
theorem PS.grown {pb : Nat} {A : Option Addr} {c : Nat} {L : List Tok} {i j : Nat} {late late' : Int} {w w' : World} (h : PS pb A c L i late w) (hg : w.grownBy w' (some pb)) (hh : w'.heap[pb]? = some (ParCells A c L j late')) (hj : j < L.length) : PS pb A c L j late' w' :=
  ⟨hh, h.toks.mono TokC.mono (fun b hb => ⟨Nat.lt_of_lt_of_le hb.1 hg.size, hb.2⟩) (keepOn_grown hg fun b hb => ⟨hb.1, fun e => hb.2 (by injection e)⟩), hj, h.le, h.last, h.fit⟩
theorem grown_of_below {w w' : World} {row : Option Nat} (h : Below w.heap.size w w') : w.grownBy w' row := ⟨h.os, h.tape, h.output, h.size, fun k hk _ => h.block k hk⟩
theorem PS.below {pb : Nat} {A : Option Addr} {c : Nat} {L : List Tok} {i : Nat} {late : Int} {w w' : World} (h : PS pb A c L i late w) (hb : Below w.heap.size w w') : PS pb A c L i late w' :=
  h.grown (grown_of_below hb) ((hb.block pb h.ltp).trans h.heap) h.lt

theorem below_drew {B : Nat} {a w : World} (h : Below B a w) : Below B a w.drew := ⟨h.os, h.tape, h.output, h.size, h.block⟩
theorem fieldTok1 (a b c d : Value) (w : World) : (Instr.field 49 (.agg #[a, b, c, d]) 1).run Tryz.prog w = .ok b w := by kernel_rfl
def tokV (t : Tok) : Value := .agg #[.int .i64 t.kind, .string ⟨t.text.toArray⟩, .int .i64 t.pos, .int .i64 t.n]
def RetTok (t : Tok) (w : World) (e : Ending) (w' : World) : Prop := e = .returned (tokV t) ∧ Below w.heap.size w w'

set_option maxRecDepth 100000 in
set_option maxHeartbeats 2000000 in
theorem peek_any {pb : Nat} {A : Option Addr} {c : Nat} {L : List Tok} {i : Nat} {late : Int} {w : World} (h : PS pb A c L i late w) : Calls Tryz.prog 17 #[.pointer (some ⟨pb, 0, Option.none⟩)] w (RetTok (tk L i) w) := by
  obtain ⟨b, o, rfl, hb, hne, t0, t1, t2, t3⟩ := h.tok
  obtain ⟨p0, p1, p2, f1, f2⟩ := h.cells
  have hp := h.ltp
  have hi := h.lt
  have hle := h.le
  clear h
  generalize tk L i = t at *
  go_enter Tryz.func17, Tryz.ntmps17
  go_wp2
  go_region
  go_wp2
  refine bodyPost_ret (v := tokV t) (by simp [results, Tryz.results17, go_sem, tokV]) rfl ?_
  exact ⟨rfl, below_drew ((Below.refl _ _).alloc (Nat.le_refl _) _)⟩

/-- A part of the parser leaves its variable at place j. -/
def Left (pb : Nat) (A : Option Addr) (c : Nat) (L : List Tok) (j : Nat) (late : Int) (w w' : World) : Prop := w.grownBy w' (some pb) ∧ w'.heap[pb]? = some (ParCells A c L j late)
theorem grown_alloc {w w' : World} {row : Option Nat} (h : w.grownBy w' row) (o : Obj) : w.grownBy (w'.alloc o) row := h.trans (World.grownBy_alloc w' o row)
theorem PS.left {pb : Nat} {A : Option Addr} {c : Nat} {L : List Tok} {i j : Nat} {late late' : Int} {w w' : World} (h : PS pb A c L i late w) (hl : Left pb A c L j late' w w') (hj : j < L.length) : PS pb A c L j late' w' := h.grown hl.1 hl.2 hj
theorem PS.take_lt {pb : Nat} {A : Option Addr} {c : Nat} {L : List Tok} {i : Nat} {late : Int} {w : World} (h : PS pb A c L i late w) : takeI L i < L.length := by
  unfold takeI
  split
  · exact h.lt
  · exact h.last i h.lt ‹_›
theorem left_drew {pb : Nat} {A : Option Addr} {c : Nat} {L : List Tok} {j : Nat} {late : Int} {w w' : World} (h : Left pb A c L j late w w') : Left pb A c L j late w w'.drew := ⟨⟨h.1.os, h.1.tape, h.1.output, h.1.size, h.1.block⟩, h.2⟩
theorem Left.lt {pb : Nat} {A : Option Addr} {c : Nat} {L : List Tok} {j : Nat} {late : Int} {w w' : World} (h : Left pb A c L j late w w') : pb < w'.heap.size := (Array.getElem?_eq_some_iff.1 h.2).1
theorem Left.alloc {pb : Nat} {A : Option Addr} {c : Nat} {L : List Tok} {j : Nat} {late : Int} {w w' : World} (h : Left pb A c L j late w w') (o : Obj) : Left pb A c L j late w (w'.alloc o) := ⟨grown_alloc h.1 o, (Lib.alloc_old w' o pb h.lt).trans h.2⟩
theorem grown_set (w : World) (b i : Nat) (v : Value) : w.grownBy (w.setCell ⟨b, i, Option.none⟩ v) (some b) := ⟨rfl, rfl, rfl, by simp, fun k _ hne => Below.heap_setCell w _ v k (fun e => hne (by rw [e]))⟩
theorem Left.place {pb : Nat} {A : Option Addr} {c : Nat} {L : List Tok} {i : Nat} {late : Int} {w : World} (h : w.heap[pb]? = some (ParCells A c L i late)) : Left pb A c L (i + 1) late w (w.setCell ⟨pb, 1, Option.none⟩ (.int .i64 ((i : Int) + 1))) :=
  ⟨grown_set w pb 1 _, by have := heap_setCell_same w pb 1 _ _ (.int .i64 ((i : Int) + 1)) h; rw [this]; rfl⟩
theorem Left.below {pb : Nat} {A : Option Addr} {c : Nat} {L : List Tok} {j : Nat} {late : Int} {w w' w'' : World} (h : Left pb A c L j late w w') (hb : Below w'.heap.size w' w'') : Left pb A c L j late w w'' := ⟨h.1.trans (grown_of_below hb), (hb.block pb h.lt).trans h.2⟩
theorem Left.trans {pb : Nat} {A : Option Addr} {c : Nat} {L : List Tok} {i j : Nat} {late late' : Int} {w w' w'' : World} (h : Left pb A c L i late w w') (k : Left pb A c L j late' w' w'') : Left pb A c L j late' w w'' := ⟨h.1.trans k.1, k.2⟩
def RetTake (pb : Nat) (A : Option Addr) (c : Nat) (L : List Tok) (i : Nat) (late : Int) (w : World) (e : Ending) (w' : World) : Prop := e = .returned (tokV (tk L i)) ∧ Left pb A c L (takeI L i) late w w'

set_option maxRecDepth 100000 in
set_option maxHeartbeats 2000000 in
theorem take_any {pb : Nat} {A : Option Addr} {c : Nat} {L : List Tok} {i : Nat} {late : Int} {w : World} (h : PS pb A c L i late w) : Calls Tryz.prog 59 #[.pointer (some ⟨pb, 0, Option.none⟩)] w (RetTake pb A c L i late w) := by
  obtain ⟨b, o, rfl, hb, hne, t0, t1, t2, t3⟩ := h.tok
  obtain ⟨p0, p1, p2, f1, f2⟩ := h.cells
  have hp := h.ltp
  have hi := h.lt
  have hle := h.le
  have hh := Lib.hid h.heap
  have ht : takeI L i = if (tk L i).kind = 0 then i else i + 1 := rfl
  have HT := Lib.hid ht
  clear h ht
  unfold RetTake
  generalize tk L i = t at *
  by_cases hk : t.kind = 0
  · have hk1 : (t.kind != 0) = false := by simp [hk]
    have HK := Lib.hid hk
    clear hk
    go_enter Tryz.func59, Tryz.ntmps59
    go_wp2
    go_region
    go_wp2
    refine bodyPost_ret (v := tokV t) (by simp [results, Tryz.results59, go_sem, tokV]) rfl ⟨rfl, ?_⟩
    have he : takeI L i = i := by rw [HT.out]; exact if_pos HK.out
    rw [he]
    exact left_drew (Left.alloc (Left.alloc ⟨World.grownBy.refl w _, hh.out⟩ _) _)
  · have hk1 : (t.kind != 0) = true := by simp [hk]
    have HK := Lib.hid hk
    clear hk
    go_enter Tryz.func59, Tryz.ntmps59
    go_wp2
    go_region
    go_wp2
    refine bodyPost_ret (v := tokV t) (by simp [results, Tryz.results59, go_sem, tokV]) rfl ⟨rfl, ?_⟩
    have he : takeI L i = i + 1 := by rw [HT.out]; exact if_neg HK.out
    rw [he]
    exact left_drew (Left.alloc (Left.alloc (Left.place hh.out) _) _)

theorem bodyPost_panic {P : Program} {fn : Func} {R : Ending → World → Prop} {a : Act} {w : World} {chain : List PanicEntry} (hd : a.defers = []) (hR : R (.panicked chain) w) : bodyPost P fn R (.panic chain) a w := ⟨hd, hR⟩
def stopV (a e : Int) : List PanicEntry := [{ v := .iface 40 (.agg #[.int .i64 a, .int .i64 e]), recovered := false }]
def RetNeed (pb : Nat) (A : Option Addr) (c : Nat) (L : List Tok) (i : Nat) (late : Int) (w : World) (e : Ending) (w' : World) : Prop := e = .returned (.tuple #[]) ∧ Left pb A c L (takeI L i) late w w'
def RetStop (pb : Nat) (a er : Int) (w : World) (e : Ending) (w' : World) : Prop := e = .panicked (stopV a er) ∧ w.grownBy w' (some pb)

set_option maxRecDepth 100000 in
set_option maxHeartbeats 2000000 in
theorem need_ok {pb : Nat} {A : Option Addr} {c : Nat} {L : List Tok} {i : Nat} {late : Int} {w : World} (s : List UInt8) (h : PS pb A c L i late w) (hb : isT L i s = true) : Calls Tryz.prog 108 #[.pointer (some ⟨pb, 0, Option.none⟩), .string ⟨s.toArray⟩] w (RetNeed pb A c L i late w) := by
  have C := take_any h
  unfold RetTake at C
  have HC := Lib.hid C
  unfold isT at hb
  clear C h
  generalize tk L i = t at *
  go_enter Tryz.func108, Tryz.ntmps108
  go_wp2_with fail
  refine HC.out.mono ?_
  rintro e w1 ⟨rfl, hl⟩
  unfold tokV
  go_wp2
  go_end0
  exact ⟨rfl, hl.alloc _⟩
set_option maxRecDepth 100000 in
set_option maxHeartbeats 2000000 in
theorem need_no {pb : Nat} {A : Option Addr} {c : Nat} {L : List Tok} {i : Nat} {late : Int} {w : World} (s : List UInt8) (h : PS pb A c L i late w) (hb : isT L i s = false) : Calls Tryz.prog 108 #[.pointer (some ⟨pb, 0, Option.none⟩), .string ⟨s.toArray⟩] w (RetStop pb (tk L i).pos 6 w) := by
  have C := take_any h
  unfold RetTake at C
  have HC := Lib.hid C
  unfold isT at hb
  clear C h
  generalize tk L i = t at *
  go_enter Tryz.func108, Tryz.ntmps108
  go_wp2_with fail
  refine HC.out.mono ?_
  rintro e w1 ⟨rfl, hl⟩
  unfold tokV
  go_wp2
  refine bodyPost_panic rfl ?_
  exact ⟨rfl, grown_alloc hl.1 _⟩
end Go.Proofs.YtmbmngnnfkdngaaGreatDoor
