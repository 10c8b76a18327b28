/-
  Format of the program, over any list of events.
-/
import Derived.Test.YtcoablindoknpaaDoorText
namespace Go.Proofs.YtcoablindoknpaaDoor
open Go.RowKit

theorem own_below' {w w' : World} {base : Nat} {e : TypeId} {size n : Nat} {v : Value} {xs : List Value} (h : w.ownsRow base e size v n xs) (hb : Below w.heap.size w w') : w'.ownsRow base e size v n xs := own_below h hb (Nat.le_refl _)
theorem builderAt_below {T e : TypeId} {B b : Nat} {p : Value} {bs : List Value} {w w' : World} (h : Lib.BuilderAt T e B b p bs w) (hb : Below w.heap.size w w') : Lib.BuilderAt T e B b p bs w' := by
  have hl := h.lt
  obtain ⟨h1, v, h2, h3, h4⟩ := h
  exact ⟨h1, v, (hb.block b hl).trans h2, own_below' h3 hb, h4⟩
theorem isBuilder_below {T e : TypeId} {B b : Nat} {bs : List Value} {w w' : World} (h : Lib.IsBuilder T e B b bs w) (hb : Below w.heap.size w w') : Lib.IsBuilder T e B b bs w' := by
  rcases h with h | h
  · exact .inl (builderAt_below h hb)
  · exact .inr (builderAt_below h hb)

def fmtS (es : List Ev) : List UInt8 := es.flatMap fun e => lineS e ++ [10]
def allGoodB (es : List Ev) : Bool := es.all goodB
def formatS (es : List Ev) : List UInt8 := if allGoodB es then fmtS es else []
theorem fmtS_succ {es : List Ev} {k : Nat} {e : Ev} (h : es[k]? = some e) : fmtS (es.take (k + 1)) = fmtS (es.take k) ++ lineS e ++ [10] := by
  rw [List.take_succ_eq_append_getElem (List.getElem?_eq_some_iff.1 h).1, (List.getElem?_eq_some_iff.1 h).2]
  simp [fmtS]
theorem lineS_len {e : Ev} (h : goodB e = true) : (lineS e).length ≤ 30 := by
  obtain ⟨⟨a1, a2⟩, ⟨a3, a4⟩, ⟨a5, a6⟩, a7, a8⟩ := good_bounds h
  have L1 := itoa_len 9 e.time a1 (by omega)
  have L2 := itoa_len 2 e.device a3 (by omega)
  have L3 := itoa_len 2 e.signal a5 (by omega)
  have L4 := itoa_len 0 e.quality a7 (by omega)
  simp only [lineS, List.length_append, List.length_cons, List.length_nil]
  split <;> split <;> simp <;> omega
/-- The first k are good. -/
def FirstGood (es : List Ev) (k : Nat) : Prop := ∀ j e, j < k → es[j]? = some e → goodB e = true
theorem firstGood_zero (es : List Ev) : FirstGood es 0 := fun _ _ h => absurd h (Nat.not_lt_zero _)
theorem firstGood_succ {es : List Ev} {k : Nat} {e : Ev} (h : FirstGood es k) (he : es[k]? = some e) (hg : goodB e = true) : FirstGood es (k + 1) := by
  intro j x hj hx
  rcases Nat.lt_succ_iff_lt_or_eq.1 hj with h' | rfl
  · exact h j x h' hx
  · rw [he] at hx; cases hx; exact hg
theorem fmt_len {es : List Ev} : ∀ {k : Nat}, k ≤ es.length → FirstGood es k → (fmtS (es.take k)).length ≤ 31 * k
  | 0, _, _ => by simp [fmtS]
  | k + 1, hk, h => by
    have ih := fmt_len (es := es) (k := k) (by omega) (fun j e hj he => h j e (by omega) he)
    have he := List.getElem?_eq_getElem (show k < es.length by omega)
    have hl := lineS_len (h k _ (Nat.lt_succ_self _) he)
    rw [fmtS_succ he, List.length_append, List.length_append, List.length_singleton]
    omega
theorem format_bad {es : List Ev} {k : Nat} {e : Ev} (he : es[k]? = some e) (hg : goodB e = false) : formatS es = [] := by
  have : allGoodB es = false := by
    unfold allGoodB
    rw [List.all_eq_false]
    exact ⟨e, List.mem_of_getElem? he, by simp [hg]⟩
  simp [formatS, this]
theorem format_ok {es : List Ev} (h : FirstGood es es.length) : formatS es = fmtS es := by
  have : allGoodB es = true := by
    unfold allGoodB
    rw [List.all_eq_true]
    intro x hx
    obtain ⟨j, hj⟩ := List.getElem?_of_mem hx
    exact h j x (List.getElem?_eq_some_iff.1 hj).1 hj
  simp [formatS, this]
theorem bytes_append (a b : List UInt8) : Lib.byteCells (a ++ b) = Lib.byteCells a ++ Lib.byteCells b := by simp [Lib.byteCells]
theorem strCells_eq (l : List UInt8) : Lib.strCells ⟨l.toArray⟩ = Lib.byteCells l := by simp [Lib.strCells, Lib.byteCells]

def FmR (w : World) (es : List Ev) (i : Value) (wr : World) : Prop :=
  ∃ k : Nat, k ≤ es.length ∧ i = .int .i64 k ∧ FirstGood es k ∧ Lib.IsBuilder 64 5 w.heap.size w.heap.size (Lib.byteCells (fmtS (es.take k))) wr ∧ Below w.heap.size w wr

set_option maxRecDepth 100000 in
set_option maxHeartbeats 4000000 in
theorem format_any (A : Option Addr) (c B : Nat) (es : List Ev) (w : World) (T : Tab w) (hB : B ≤ w.heap.size) (hr : Rws EvC 5 w B A es.length es) (hn : es.length ≤ 1000) :
    Calls Tryd.prog 27 #[.slice A es.length c] w (RetStr (formatS es) w) := by
  have hfr := Lib.hid (Lib.fresh_isBuilder 64 5 w)
  have hbox := box_below w (Obj.cells #[.pointer Option.none, .slice Option.none 0 0] 64)
  have HT := Lib.hid T
  clear T
  go_enter Tryd.func27, Tryd.ntmps27
  go_wp2
  go_loopw [8] (FmR w es) (fun i _ => es.length - (intOf i).toNat)
  case atStart => exact ⟨0, Nat.zero_le _, rfl, firstGood_zero _, hfr.out, hbox⟩
  case round =>
    obtain ⟨k, hk, rfl, hfg, hbd, hbel⟩ := hrel
    have HF := Lib.hid hfg
    have HBd := Lib.hid hbd
    have hsz := hbel.size
    clear hfg hbd
    by_cases hlt : k < es.length
    · obtain ⟨b, o, x, rfl, hbB, hx, E0⟩ := evAt hr hlt
      obtain ⟨p0, p1, p2, p3, p4⟩ := E0.below (hbel.mono hB) hbB
      have HX := Lib.hid hx
      have hbx := box_below wr (Obj.cells #[.int .i64 x.time, .int .i64 x.device, .int .i64 x.signal, .bool x.value, .int .i64 x.quality] 26)
      have EN := EB.new wr x 26
      have C := fun W => good_any x W
      unfold Ev.cells at C
      have hb' : b < wr.heap.size := by omega
      have hlen := fmt_len hk HF.out
      clear hx
      cases hg : goodB x with
      | false =>
        rw [hg] at C
        have HC := Lib.hid C
        have HG := Lib.hid hg
        clear C hg E0 hlen
        go_wp2_with fail
        refine (HC.out _).mono ?_
        rintro e w3 ⟨rfl, hb3⟩
        go_wp2
        go_ret
        exact ⟨ret_str (by rw [format_bad HX.out HG.out]), hbel.trans ((hbx.trans (hb3.mono (by simp))).mono hsz)⟩
      | true =>
      rw [hg] at C
      have HC := Lib.hid C
      have HG := Lib.hid hg
      have hll := lineS_len hg
      clear C hg E0
      go_wp2_with fail
      refine (HC.out _).mono ?_
      rintro e w3 ⟨rfl, hb3⟩
      have hw3 := hbx.trans (hb3.mono (by simp))
      obtain ⟨q0, q1, q2, q3, q4⟩ := EN.below hb3 (by simp)
      have hbel3 := hbel.trans (hw3.mono hsz)
      have C2 := line_any x w3 (HT.out.below hbel3) HG.out
      unfold Ev.cells at C2
      have HC2 := Lib.hid C2
      have bd3 := isBuilder_below HBd.out hw3
      have hs3 := hbel3.size
      clear p0 p1 p2 p3 p4 HC C2
      go_wp2_with fail
      refine HC2.out.mono ?_
      rintro e w4 ⟨rfl, hb4⟩
      have bd4 := isBuilder_below bd3 hb4
      have hbel4 := hbel3.trans (hb4.mono hs3)
      have hs4 := hbel4.size
      have C3 := writeString_any w.heap.size w.heap.size _ ⟨(lineS x).toArray⟩ w4 bd4 (by rw [Lib.byteCells_length]; simp [ByteArray.size]; omega) hs4
      have HC3 := Lib.hid C3
      clear q0 q1 q2 q3 q4 HC2 C3 bd3 bd4
      go_wp2_with fail
      refine HC3.out.mono ?_
      rintro e w5 ⟨rfl, bd5, hb5⟩
      have hbel5 := hbel4.trans hb5
      have hs5 := hbel5.size
      have C4 := writeByte_any w.heap.size w.heap.size _ 10 w5 (.inr bd5) (by rw [List.length_append, Lib.byteCells_length, strCells_eq, Lib.byteCells_length]; omega) hs5
      have HC4 := Lib.hid C4
      clear HC3 C4 bd5
      go_wp2_with fail
      refine HC4.out.mono ?_
      rintro e w6 ⟨rfl, bd6, hb6⟩
      have HB6 := Lib.hid bd6
      have hbel6 := hbel5.trans hb6
      clear HC4 bd6
      go_wp2
      go_roundw
      case rel =>
        refine ⟨k + 1, by omega, by go_num, firstGood_succ HF.out HX.out HG.out, .inr ?_, hbel6⟩
        rw [fmtS_succ HX.out, bytes_append, bytes_append]
        have := HB6.out
        rw [strCells_eq] at this
        exact this
      case measure => simp [intOf]; omega
    · obtain rfl : k = es.length := by omega
      have C := Tryd.Builder_String_any w.heap.size w.heap.size _ wr HBd.out hsz
      have HC := Lib.hid C
      clear C
      go_wp2_with fail
      refine HC.out.mono ?_
      rintro e w3 ⟨rfl, hb3⟩
      go_wp2
      go_ret
      exact ⟨ret_str (by rw [format_ok HF.out]), hbel.trans hb3⟩
end Go.Proofs.YtcoablindoknpaaDoor
