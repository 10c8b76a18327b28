/-
  A builder beside blocks that are kept: WriteString.
-/
import Derived.Test.YtmbmngnnfkdngaaGreatDoorBld
namespace Go.Proofs.YtmbmngnnfkdngaaGreatDoor
open Go.RowKit

/-- The world is as it was at the blocks of K. -/
structure Kp (K : Nat → Prop) (w w' : World) : Prop where
  os : w'.os = w.os
  tape : w'.tape = w.tape
  output : w'.output = w.output
  size : w.heap.size ≤ w'.heap.size
  keep : KeepOn K w w'
theorem Kp.refl (K : Nat → Prop) (w : World) : Kp K w w := ⟨rfl, rfl, rfl, Nat.le_refl _, fun _ _ => rfl⟩
theorem Kp.trans {K : Nat → Prop} {a b c : World} (h : Kp K a b) (k : Kp K b c) : Kp K a c := ⟨k.os.trans h.os, k.tape.trans h.tape, k.output.trans h.output, Nat.le_trans h.size k.size, h.keep.trans k.keep⟩
theorem Kp.mono {K K' : Nat → Prop} {a b : World} (h : Kp K a b) (hk : ∀ x, K' x → K x) : Kp K' a b := ⟨h.os, h.tape, h.output, h.size, h.keep.mono hk⟩
theorem Kp.of_below {K : Nat → Prop} {B : Nat} {w w' : World} (h : Below B w w') (hk : ∀ x, K x → x < B) : Kp K w w' := ⟨h.os, h.tape, h.output, h.size, keepOn_below h hk⟩
theorem Kp.of_grown {K : Nat → Prop} {row : Option Nat} {w w' : World} (h : w.grownBy w' row) (hk : ∀ x, K x → x < w.heap.size ∧ some x ≠ row) : Kp K w w' := ⟨h.os, h.tape, h.output, h.size, keepOn_grown h hk⟩
theorem Kp.below {B : Nat} {w w' : World} (h : Kp (fun b => b < B) w w') : Below B w w' := ⟨h.os, h.tape, h.output, h.size, fun k hk => h.keep k hk⟩
/-- A builder at bb that holds these bytes, none of whose blocks is of K; what K has at B or above are variables of expressions. -/
structure BK (B : Nat) (K : Nat → Prop) (bb : Nat) (l : List UInt8) (w : World) : Prop where
  bd : Lib.IsBuilder 74 5 B bb (Lib.byteCells l) w
  kt : ∀ b, K b → b < w.heap.size ∧ b ≠ bb ∧ (b < B ∨ ∃ cs fz, w.heap[b]? = some (.cells cs 25 fz))
  bw : B ≤ w.heap.size
theorem BK.mono {B : Nat} {K K' : Nat → Prop} {bb : Nat} {l : List UInt8} {w : World} (h : BK B K bb l w) (hk : ∀ b, K' b → K b) : BK B K' bb l w := ⟨h.bd, fun b hb => h.kt b (hk b hb), h.bw⟩
theorem BK.below {B : Nat} {K : Nat → Prop} {bb : Nat} {l : List UInt8} {w w' : World} (h : BK B K bb l w) (hb : Below w.heap.size w w') : BK B K bb l w' := by
  refine ⟨isBuilder_below h.bd hb, fun b q => ?_, Nat.le_trans h.bw hb.size⟩
  obtain ⟨h1, h2, h3⟩ := h.kt b q
  refine ⟨Nat.lt_of_lt_of_le h1 hb.size, h2, h3.imp id ?_⟩
  rintro ⟨cs, fz, e⟩
  exact ⟨cs, fz, (hb.block b h1).trans e⟩
theorem bd_lt {B bb : Nat} {bs : List Value} {w : World} (h : Lib.IsBuilder 74 5 B bb bs w) : bb < w.heap.size := by
  rcases h with h | h
  · exact h.lt
  · exact h.lt
/-- A new variable of an expression may be kept too. -/
theorem BK.box {B : Nat} {K : Nat → Prop} {bb : Nat} {l : List UInt8} {w : World} (h : BK B K bb l w) (cs : Array Value) : BK B (fun b => K b ∨ b = w.heap.size) bb l (w.alloc (.cells cs 25)) := by
  have h' := h.below (box_below w (.cells cs 25))
  refine ⟨h'.bd, fun b q => ?_, h'.bw⟩
  rcases q with q | rfl
  · exact h'.kt b q
  · have := bd_lt h.bd
    exact ⟨by simp, by omega, .inr ⟨cs, (0, 0), heap_alloc_new w _⟩⟩
theorem own_notK {B : Nat} {K : Nat → Prop} {bb : Nat} {w : World} {v : Value} {n : Nat} {xs : List Value} (kt : ∀ b, K b → b < w.heap.size ∧ b ≠ bb ∧ (b < B ∨ ∃ cs fz, w.heap[b]? = some (.cells cs 25 fz))) (ho : w.ownsRow B 5 1 v n xs) (b : Nat) (hb : K b) : some b ≠ v.ownBlock := by
  intro q
  have hlt := ho.lt b q.symm
  rcases ho.2 with ⟨rfl, -⟩ | ⟨g, cap, cur, rfl, h2, h3, -⟩
  · cases q
  · obtain rfl : b = g := by injection q
    rcases (kt b hb).2.2 with h | ⟨cs, fz, e⟩
    · omega
    · rw [h3] at e
      injection e with e
      injection e with _ e2 _
      exact absurd e2 (by decide)
def RetWK (B : Nat) (K : Nat → Prop) (bb : Nat) (l s : List UInt8) (w : World) (e : Ending) (w' : World) : Prop := e = .returned (.tuple #[.int .i64 s.length, .nilIface]) ∧ BK B K bb (l ++ s) w' ∧ Kp K w w'
def RetCK (B : Nat) (K : Nat → Prop) (bb : Nat) (l : List UInt8) (w : World) (e : Ending) (w' : World) : Prop := e = .returned (.tuple #[]) ∧ Lib.BuilderAt 74 5 B bb (.pointer (some ⟨bb, 0, Option.none⟩)) (Lib.byteCells l) w' ∧ (∀ b, K b → b < w'.heap.size ∧ b ≠ bb ∧ (b < B ∨ ∃ cs fz, w'.heap[b]? = some (.cells cs 25 fz))) ∧ Kp K w w'
theorem copyCheck_keep (B bb : Nat) (K : Nat → Prop) (l : List UInt8) (w : World) (h : BK B K bb l w) : Calls Tryz.prog 69 #[.pointer (some ⟨bb, 0, Option.none⟩)] w (RetCK B K bb l w) := by
  rcases h.bd with hb | hb
  · refine (copyCheck_fresh bb w hb.cell0 hb.shape hb.frozen0).mono ?_
    rintro e w' ⟨rfl, rfl⟩
    have hg := grown_set w bb 0 (.pointer (some ⟨bb, 0, Option.none⟩))
    refine ⟨rfl, hb.used _, fun b q => ?_, Kp.of_grown hg fun b q => ⟨(h.kt b q).1, fun e => (h.kt b q).2.1 (by injection e)⟩⟩
    obtain ⟨h1, h2, h3⟩ := h.kt b q
    refine ⟨by rw [World.size_setCell]; exact h1, h2, h3.imp id ?_⟩
    rintro ⟨cs, fz, e⟩
    exact ⟨cs, fz, (hg.block b h1 (fun e => h2 (by injection e))).trans e⟩
  · refine (copyCheck_used bb w hb.cell0).mono ?_
    rintro e w' ⟨rfl, rfl⟩
    exact ⟨rfl, hb, h.kt, Kp.refl _ _⟩

set_option maxHeartbeats 2000000 in
set_option maxRecDepth 100000 in
theorem ws_keep (B bb : Nat) (K : Nat → Prop) (l s : List UInt8) (w : World) (h : BK B K bb l w) (hlen : l.length + s.length ≤ 140737488355328) :
    Calls Tryz.prog 49 #[.pointer (some ⟨bb, 0, Option.none⟩), .string ⟨s.toArray⟩] w (RetWK B K bb l s w) := by
  obtain ⟨i0, hi, hz0, hz1, hz2⟩ := info_parts' infoByte
  have hbw := h.bw
  have hbl : (Lib.byteCells l).length = l.length := Lib.byteCells_length l
  have C := copyCheck_keep B bb K l w h
  have HC := Lib.hid C
  clear C h
  generalize hbs : Lib.byteCells l = bs at *
  have HBS := Lib.hid hbs
  have HBL := Lib.hid hbl
  clear hbs hbl
  go_enter Tryz.func49, Tryz.ntmps49
  go_wp2_with fail
  refine HC.out.mono ?_
  rintro e w1 ⟨rfl, h1, hkt, hkp⟩
  rw [HBS.out] at h1
  obtain ⟨hB, v, hbk, hown, hne⟩ := h1
  have c0 : w1.cell? ⟨bb, 0, Option.none⟩ = some (.pointer (some ⟨bb, 0, Option.none⟩)) := by rw [Lib.cell_of_heap hbk]; rfl
  have c1 : w1.cell? ⟨bb, 1, Option.none⟩ = some v := by rw [Lib.cell_of_heap hbk]; rfl
  have hs1 := hkp.size
  have HKT := Lib.hid hkt
  have HKP := Lib.hid hkp
  have HBK := Lib.hid hbk
  have HOW := Lib.hid hown
  have HNE := Lib.hid hne
  clear hkt hkp hbk hown hne HC
  go_wp2_with (at_builtin; refine Lib.wpList_append_own_string _ rfl _ _ 72 9 rfl B 5 i0 Tryz.underlying72 Tryz.underlying9 hi hz0 hz1 hz2 _ _ _ rfl HOW.out ⟨s.toArray⟩ rfl ?c3 ?c4 ?c5 ?_)
  case c3 => rw [HBL.out]; unfold maxLen; simp only [ByteArray.size, List.size_toArray]; omega
  case c4 => rw [HBL.out]; simp only [ByteArray.size, List.size_toArray]; omega
  case c5 => omega
  intro v' w2 hown' hgrow _
  have hlt : bb < w1.heap.size := (Array.getElem?_eq_some_iff.1 HBK.out).1
  have hb2 : w2.heap[bb]? = some (.cells #[.pointer (some ⟨bb, 0, Option.none⟩), v] 74 (0, 0)) := by
    rw [hgrow.block bb hlt (fun e => HNE.out e.symm)]
    exact HBK.out
  have d0 : w2.cell? ⟨bb, 0, Option.none⟩ = some (.pointer (some ⟨bb, 0, Option.none⟩)) := by rw [Lib.cell_of_heap hb2]; rfl
  have d1 : w2.cell? ⟨bb, 1, Option.none⟩ = some v := by rw [Lib.cell_of_heap hb2]; rfl
  have f1 : w2.frozen? ⟨bb, 1, Option.none⟩ = false := Lib.frozen_of_heap hb2 1
  obtain ⟨ao, n', cap, rfl⟩ : ∃ ao n' cap, v' = .slice ao n' cap := by
    rcases hown'.2 with ⟨hv, _⟩ | ⟨g, cap, cur, hv, _⟩
    · exact ⟨_, _, _, hv⟩
    · exact ⟨_, _, _, hv⟩
  have hs2 := hgrow.size
  have HG := Lib.hid hgrow
  have HO2 := Lib.hid hown'
  have HB2 := Lib.hid hb2
  clear hgrow hown' hb2
  go_wp2
  go_ret2
  have hk2 : Kp K w1 w2 := Kp.of_grown HG.out fun b q => ⟨(HKT.out b q).1, own_notK HKT.out HOW.out b q⟩
  have hgs := grown_set w2 bb 1 (.slice ao n' cap)
  have hk3 : Kp K w2 (w2.setCell ⟨bb, 1, Option.none⟩ (.slice ao n' cap)) := Kp.of_grown hgs fun b q => ⟨Nat.lt_of_lt_of_le (HKT.out b q).1 hs2, fun e => (HKT.out b q).2.1 (by injection e)⟩
  refine ⟨by simp, ⟨.inr ?_, fun b q => ?_, by rw [World.size_setCell]; omega⟩, (HKP.out.trans hk2).trans hk3⟩
  · rw [bytes_append, HBS.out, ← strCells_eq]
    refine Lib.BuilderAt.put (T := 74) (e := 5) hB HB2.out (bs' := bs ++ Lib.strCells ⟨s.toArray⟩) ?_ (by decide)
    rw [List.length_append, Lib.strCells_length]
    exact HO2.out
  · obtain ⟨h1, h2, h3⟩ := HKT.out b q
    refine ⟨by rw [World.size_setCell]; omega, h2, h3.imp id ?_⟩
    rintro ⟨cs, fz, e⟩
    exact ⟨cs, fz, ((hk2.trans hk3).keep b q).trans e⟩
end Go.Proofs.YtmbmngnnfkdngaaGreatDoor
