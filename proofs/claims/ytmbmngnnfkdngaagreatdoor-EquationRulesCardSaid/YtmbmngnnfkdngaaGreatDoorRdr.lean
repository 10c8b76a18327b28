/-
  The reference's reader: its variable, is, eat, need and two.
-/
import Derived.Test.YtmbmngnnfkdngaaGreatDoorRel
import Derived.Test.YtmbmngnnfkdngaaGreatDoorRdP
namespace Go.Proofs.YtmbmngnnfkdngaaGreatDoor
open Go.RowKit

/-- A token of the reader: three cells. -/
def TkrC (_ : World) (_ : Nat → Prop) (cs : List Value) (t : Tok) : Prop := cs = [.int .i64 t.kind, .string ⟨t.text.toArray⟩, .int .i64 t.pos]
theorem TkrC.mono : MonoS TkrC := fun _ _ _ _ _ _ _ _ h => h
structure TRB (w : World) (b o : Nat) (t : Tok) : Prop where
  c0 : w.cell? ⟨b, o, Option.none⟩ = some (.int .i64 t.kind)
  c1 : w.cell? ⟨b, o + 1, Option.none⟩ = some (.string ⟨t.text.toArray⟩)
  c2 : w.cell? ⟨b, o + 2, Option.none⟩ = some (.int .i64 t.pos)
/-- The reader's variable. -/
def RdCells (A : Option Addr) (c : Nat) (l : List Tok) (s : RSt) : Obj := .cells #[.slice A l.length c, .int .i64 s.i, .bool s.bad, .int .i64 s.la] 57 (0, 0)
structure RS (rb : Nat) (A : Option Addr) (c : Nat) (t : List UInt8) (l : List Tok) (s : RSt) (w : World) : Prop where
  heap : w.heap[rb]? = some (RdCells A c l s)
  toks : Rw TkrC 3 w (fun b => b < w.heap.size ∧ b ≠ rb) A l.length l
  le : s.i ≤ l.length
  len : l.length ≤ t.length
  short : t.length ≤ 120
  words : ∀ k ∈ l, TokW t k
theorem RS.ltp {rb : Nat} {A : Option Addr} {c : Nat} {t : List UInt8} {l : List Tok} {s : RSt} {w : World} (h : RS rb A c t l s w) : rb < w.heap.size := (Array.getElem?_eq_some_iff.1 h.heap).1
theorem RS.cells {rb : Nat} {A : Option Addr} {c : Nat} {t : List UInt8} {l : List Tok} {s : RSt} {w : World} (h : RS rb A c t l s w) :
    w.cell? ⟨rb, 0, Option.none⟩ = some (.slice A l.length c) ∧ w.cell? ⟨rb, 1, Option.none⟩ = some (.int .i64 s.i) ∧ w.cell? ⟨rb, 2, Option.none⟩ = some (.bool s.bad) ∧ w.cell? ⟨rb, 3, Option.none⟩ = some (.int .i64 s.la) ∧
    w.frozen? ⟨rb, 1, Option.none⟩ = false ∧ w.frozen? ⟨rb, 2, Option.none⟩ = false ∧ w.frozen? ⟨rb, 3, Option.none⟩ = false := by
  have hh : w.heap[rb]? = some (.cells #[.slice A l.length c, .int .i64 s.i, .bool s.bad, .int .i64 s.la] 57 (0, 0)) := h.heap
  exact ⟨by simp [World.cell?, hh], by simp [World.cell?, hh], by simp [World.cell?, hh], by simp [World.cell?, hh], Lib.frozen_of_heap hh 1, Lib.frozen_of_heap hh 2, Lib.frozen_of_heap hh 3⟩
theorem RS.tok {rb : Nat} {A : Option Addr} {c : Nat} {t : List UInt8} {l : List Tok} {s : RSt} {w : World} (h : RS rb A c t l s w) (hi : s.i < l.length) :
    ∃ b o, A = some ⟨b, o, Option.none⟩ ∧ b < w.heap.size ∧ b ≠ rb ∧ TRB w b (o + s.i * 3) (tk l s.i) ∧ TokW t (tk l s.i) := by
  obtain ⟨b, o, cs, x, e, ⟨hb, hne⟩, hx, _, hR, hat⟩ := h.toks.at_ hi
  obtain rfl : cs = _ := hR
  have ht : tk l s.i = x := by unfold tk; rw [List.getD_eq_getElem?_getD, hx]; rfl
  rw [ht]
  exact ⟨b, o, e, hb, hne, ⟨by simpa using hat 0 _ rfl, hat 1 _ rfl, hat 2 _ rfl⟩, h.words x (List.mem_of_getElem? hx)⟩
def LeftR (rb : Nat) (A : Option Addr) (c : Nat) (l : List Tok) (s : RSt) (w w' : World) : Prop := w.grownBy w' (some rb) ∧ w'.heap[rb]? = some (RdCells A c l s)
theorem RS.left {rb : Nat} {A : Option Addr} {c : Nat} {t : List UInt8} {l : List Tok} {s s' : RSt} {w w' : World} (h : RS rb A c t l s w) (hl : LeftR rb A c l s' w w') (hs : s'.i ≤ l.length) : RS rb A c t l s' w' :=
  ⟨hl.2, h.toks.mono TkrC.mono (fun b hb => ⟨Nat.lt_of_lt_of_le hb.1 hl.1.size, hb.2⟩) (keepOn_grown hl.1 fun b hb => ⟨hb.1, fun e => hb.2 (by injection e)⟩), hs, h.len, h.short, h.words⟩
theorem LeftR.refl {rb : Nat} {A : Option Addr} {c : Nat} {t : List UInt8} {l : List Tok} {s : RSt} {w : World} (h : RS rb A c t l s w) : LeftR rb A c l s w w := ⟨World.grownBy.refl w _, h.heap⟩
theorem LeftR.lt {rb : Nat} {A : Option Addr} {c : Nat} {l : List Tok} {s : RSt} {w w' : World} (h : LeftR rb A c l s w w') : rb < w'.heap.size := (Array.getElem?_eq_some_iff.1 h.2).1
theorem LeftR.below {rb : Nat} {A : Option Addr} {c : Nat} {l : List Tok} {s : RSt} {w w' w'' : World} (h : LeftR rb A c l s w w') (hb : Below w'.heap.size w' w'') : LeftR rb A c l s w w'' := ⟨h.1.trans (grown_of_below hb), (hb.block rb h.lt).trans h.2⟩
theorem LeftR.trans {rb : Nat} {A : Option Addr} {c : Nat} {l : List Tok} {s s' : RSt} {w w' w'' : World} (h : LeftR rb A c l s w w') (k : LeftR rb A c l s' w' w'') : LeftR rb A c l s' w w'' := ⟨h.1.trans k.1, k.2⟩
theorem LeftR.pre {rb : Nat} {A : Option Addr} {c : Nat} {l : List Tok} {s : RSt} {w w' w'' : World} (hb : Below w.heap.size w w') (h : LeftR rb A c l s w' w'') : LeftR rb A c l s w w'' := ⟨(grown_of_below hb).trans h.1, h.2⟩
theorem LeftR.alloc {rb : Nat} {A : Option Addr} {c : Nat} {l : List Tok} {s : RSt} {w w' : World} (h : LeftR rb A c l s w w') (o : Obj) : LeftR rb A c l s w (w'.alloc o) := h.below (box_below w' o)
theorem LeftR.drew {rb : Nat} {A : Option Addr} {c : Nat} {l : List Tok} {s : RSt} {w w' : World} (h : LeftR rb A c l s w w') : LeftR rb A c l s w w'.drew := h.below (below_drew (Below.refl _ _))
theorem RS.below {rb : Nat} {A : Option Addr} {c : Nat} {t : List UInt8} {l : List Tok} {s : RSt} {w w' : World} (h : RS rb A c t l s w) (hb : Below w.heap.size w w') : RS rb A c t l s w' := h.left ((LeftR.refl h).below hb) h.le
theorem RS.drew {rb : Nat} {A : Option Addr} {c : Nat} {t : List UInt8} {l : List Tok} {s : RSt} {w : World} (h : RS rb A c t l s w) : RS rb A c t l s w.drew := h.below (below_drew (Below.refl _ _))
/-- One cell of the reader's variable is stored anew. -/
theorem LeftR.place {rb : Nat} {A : Option Addr} {c : Nat} {l : List Tok} {s : RSt} {w w' : World} (h : LeftR rb A c l s w w') : LeftR rb A c l (stepR s) w (w'.setCell ⟨rb, 1, Option.none⟩ (.int .i64 ((s.i : Int) + 1))) :=
  ⟨h.1.trans (grown_set w' rb 1 _), by have := heap_setCell_same w' rb 1 _ _ (.int .i64 ((s.i : Int) + 1)) h.2; rw [this]; rfl⟩
theorem LeftR.fail {rb : Nat} {A : Option Addr} {c : Nat} {l : List Tok} {s : RSt} {w w' : World} (h : LeftR rb A c l s w w') : LeftR rb A c l (failR s) w (w'.setCell ⟨rb, 2, Option.none⟩ (.bool true)) :=
  ⟨h.1.trans (grown_set w' rb 2 _), by have := heap_setCell_same w' rb 2 _ _ (.bool true) h.2; rw [this]; rfl⟩
theorem LeftR.late {rb : Nat} {A : Option Addr} {c : Nat} {l : List Tok} {s : RSt} {w w' : World} (h : LeftR rb A c l s w w') (p : Int) : LeftR rb A c l ⟨s.i, s.bad, p⟩ w (w'.setCell ⟨rb, 3, Option.none⟩ (.int .i64 p)) :=
  ⟨h.1.trans (grown_set w' rb 3 _), by have := heap_setCell_same w' rb 3 _ _ (.int .i64 p) h.2; rw [this]; rfl⟩
def RetBq (b : Bool) (w : World) (e : Ending) (w' : World) : Prop := e = .returned (.bool b) ∧ Below w.heap.size w w'
theorem hit_out {l : List Tok} {s : RSt} {v : List UInt8} (h : l.length ≤ s.i) : hitR l s v = false := by
  unfold hitR
  simp [show ¬ s.i < l.length by omega]
theorem hit_in {l : List Tok} {i : Nat} {la : Int} {v : List UInt8} (h : i < l.length) : hitR l ⟨i, false, la⟩ v = (decide ((tk l i).kind ≠ 2) && (tk l i).text == v) := by
  unfold hitR
  simp [h]

set_option maxRecDepth 100000 in
set_option maxHeartbeats 2000000 in
theorem is_any {rb : Nat} {A : Option Addr} {c : Nat} {t : List UInt8} {l : List Tok} {s : RSt} {w : World} (v : List UInt8) (h : RS rb A c t l s w) : Calls Tryz.prog 81 #[.pointer (some ⟨rb, 0, Option.none⟩), .string ⟨v.toArray⟩] w (RetBq (hitR l s v) w) := by
  obtain ⟨p0, p1, p2, p3, f1, f2, f3⟩ := h.cells
  have hp := h.ltp
  have hlen : l.length ≤ 120 := Nat.le_trans h.len h.short
  obtain ⟨i, bad, la⟩ := s
  dsimp only at *
  cases bad with
  | true =>
    clear h
    go_enter Tryz.func81, Tryz.ntmps81
    go_wp2
    go_region
    go_wp2
    go_ret
    exact ⟨rfl, below_drew (Below.refl _ _)⟩
  | false =>
  by_cases hi : i < l.length
  case neg =>
    have HH := Lib.hid (hit_out (s := ⟨i, false, la⟩) (v := v) (show l.length ≤ i by omega))
    have dq : decide (i < l.length) = false := by simp; omega
    clear h
    go_enter Tryz.func81, Tryz.ntmps81
    go_wp2
    go_region
    go_wp2
    go_ret
    exact ⟨ret_bool HH.out.symm, below_drew (Below.refl _ _)⟩
  have hq : (i : Int) < (l.length : Int) := by omega
  have HH := Lib.hid (hit_in (la := la) (v := v) hi)
  obtain ⟨b, o, rfl, hb, hne, ⟨t0, t1, t2⟩, -⟩ := h.tok hi
  dsimp only at *
  clear h
  generalize tk l i = k at *
  by_cases hk : k.kind = 2
  · have hk1 : (k.kind != 2) = false := by simp [hk]
    have HF := Lib.hid (show hitR l ⟨i, false, la⟩ v = false by rw [HH.out]; simp [hk])
    clear hk HH
    go_enter Tryz.func81, Tryz.ntmps81
    go_wp2
    go_region
    go_wp2
    go_ret
    exact ⟨ret_bool HF.out.symm, below_drew (Below.refl _ _)⟩
  · have hk1 : (k.kind != 2) = true := by simp [hk]
    have HF := Lib.hid (show hitR l ⟨i, false, la⟩ v = (k.text == v) by rw [HH.out]; simp [hk])
    clear hk HH
    go_enter Tryz.func81, Tryz.ntmps81
    go_wp2
    go_region
    go_wp2
    go_ret
    exact ⟨ret_bool (by rw [HF.out]), below_drew (Below.refl _ _)⟩

/-- A bool is returned and the reader left at s. -/
def RetEat (rb : Nat) (A : Option Addr) (c : Nat) (l : List Tok) (b : Bool) (s : RSt) (w : World) (e : Ending) (w' : World) : Prop := e = .returned (.bool b) ∧ LeftR rb A c l s w w'
theorem hit_lt {l : List Tok} {s : RSt} {v : List UInt8} (h : hitR l s v = true) : s.i < l.length ∧ s.bad = false := by
  unfold hitR at h
  simp only [Bool.and_eq_true, decide_eq_true_eq, Bool.not_eq_true'] at h
  exact ⟨h.2.1, h.1⟩
set_option maxRecDepth 100000 in
set_option maxHeartbeats 2000000 in
theorem eat_any {rb : Nat} {A : Option Addr} {c : Nat} {t : List UInt8} {l : List Tok} {s : RSt} {w : World} (v : List UInt8) (h : RS rb A c t l s w) : Calls Tryz.prog 65 #[.pointer (some ⟨rb, 0, Option.none⟩), .string ⟨v.toArray⟩] w (RetEat rb A c l (hitR l s v) (if hitR l s v then stepR s else s) w) := by
  have C := is_any v h
  have hlen : l.length ≤ 120 := Nat.le_trans h.len h.short
  have hle := h.le
  have HL := Lib.hid (LeftR.refl h)
  have HS := Lib.hid h
  clear h
  cases hq : hitR l s v with
  | false =>
    rw [hq] at C
    have HC := Lib.hid C
    clear C hq
    go_enter Tryz.func65, Tryz.ntmps65
    go_wp2_with fail
    refine HC.out.mono ?_
    rintro e w1 ⟨rfl, hb⟩
    have HB := Lib.hid hb
    clear hb
    go_wp2
    go_ret
    exact ⟨rfl, HL.out.below HB.out⟩
  | true =>
    rw [hq] at C
    have HC := Lib.hid C
    clear C hq
    go_enter Tryz.func65, Tryz.ntmps65
    go_wp2_with fail
    refine HC.out.mono ?_
    rintro e w1 ⟨rfl, hb⟩
    obtain ⟨p0, p1, p2, p3, f1, f2, f3⟩ := (HS.out.below hb).cells
    have HB := Lib.hid hb
    have hp := (HS.out.below hb).ltp
    clear hb
    go_wp2
    go_ret
    exact ⟨rfl, (HL.out.below HB.out).place⟩
def RetSt (rb : Nat) (A : Option Addr) (c : Nat) (l : List Tok) (s : RSt) (w : World) (e : Ending) (w' : World) : Prop := e = .returned (.tuple #[]) ∧ LeftR rb A c l s w w'
set_option maxRecDepth 100000 in
set_option maxHeartbeats 2000000 in
theorem rneed_any {rb : Nat} {A : Option Addr} {c : Nat} {t : List UInt8} {l : List Tok} {s : RSt} {w : World} (v : List UInt8) (h : RS rb A c t l s w) : Calls Tryz.prog 78 #[.pointer (some ⟨rb, 0, Option.none⟩), .string ⟨v.toArray⟩] w (RetSt rb A c l (needR l v s) w) := by
  have C := eat_any v h
  have HS := Lib.hid h
  have HN := Lib.hid (show needR l v s = if hitR l s v then stepR s else failR s from rfl)
  clear h
  cases hq : hitR l s v with
  | true =>
    rw [hq, if_pos rfl] at C
    rw [HN.out, hq, if_pos rfl]
    have HC := Lib.hid C
    clear C hq HN
    go_enter Tryz.func78, Tryz.ntmps78
    go_wp2_with fail
    refine HC.out.mono ?_
    rintro e w1 ⟨rfl, hl⟩
    have HL := Lib.hid hl
    clear hl
    go_wp2
    go_end0
    exact ⟨rfl, HL.out⟩
  | false =>
    rw [hq, if_neg (by decide)] at C
    rw [HN.out, hq, if_neg (by decide)]
    have HC := Lib.hid C
    clear C hq HN
    go_enter Tryz.func78, Tryz.ntmps78
    go_wp2_with fail
    refine HC.out.mono ?_
    rintro e w1 ⟨rfl, hl⟩
    have hs1 := HS.out.left hl HS.out.le
    obtain ⟨p0, p1, p2, p3, f1, f2, f3⟩ := hs1.cells
    have hp := hs1.ltp
    have HL := Lib.hid hl
    clear hl hs1
    go_wp2
    go_end0
    exact ⟨rfl, HL.out.fail⟩
theorem need_le {l : List Tok} {v : List UInt8} {s : RSt} (h : s.i ≤ l.length) : (needR l v s).i ≤ l.length := by
  unfold needR
  split
  · exact (hit_lt ‹_›).1
  · exact h
end Go.Proofs.YtmbmngnnfkdngaaGreatDoor
