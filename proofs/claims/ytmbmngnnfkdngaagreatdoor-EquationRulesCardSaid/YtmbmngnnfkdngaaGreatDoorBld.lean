/-
  strings.Builder: copyCheck, WriteString (the kit's walks turned to this program); strconv.Itoa, strconv.FormatBool; the words infix, word of the program in bytes.
-/
import Derived.Test.YtmbmngnnfkdngaaGreatDoorParse
import Derived.Lib.Builder
import Derived.Lib.AppendStr
import Derived.Laws.Externs
import Derived.Lib.LaidTab
namespace Go.Proofs.YtmbmngnnfkdngaaGreatDoor
open Go.RowKit

theorem info_parts' {i : Option TypeInfo} {z : Option Value} {a b : Nat} (h : i.map (fun i => (i.zero, i.size, i.bytes)) = some (z, a, b)) : ∃ j, i = some j ∧ j.zero = z ∧ j.size = a ∧ j.bytes = b := by
  obtain ⟨j, h1, h2⟩ := Option.map_eq_some_iff.1 h
  exact ⟨j, h1, by simpa using h2⟩
theorem infoByte : (Tryz.prog.info? 5).map (fun i => (i.zero, i.size, i.bytes)) = some (some (.int .u8 0), 1, 1) := by kernel_rfl
theorem infoBuilder : (Tryz.prog.info? 74).map (fun i => i.size) = some 2 := by kernel_rfl
theorem liesBuilder : liesAt Tryz.prog Tryz.prog.depth 74 (2 / Tryz.prog.cellsOf 74) 0 74 1 = true := by kernel_rfl

set_option maxHeartbeats 1000000 in
set_option maxRecDepth 100000 in
theorem copyCheck_used (b : Nat) (w : World) (h0 : w.cell? ⟨b, 0, Option.none⟩ = some (.pointer (some ⟨b, 0, Option.none⟩))) :
    Calls Tryz.prog 69 #[.pointer (some ⟨b, 0, Option.none⟩)] w fun e w' => e = .returned (.tuple #[]) ∧ w' = w := by
  obtain ⟨j, hj, _⟩ := Option.map_eq_some_iff.1 infoBuilder
  go_enter Tryz.func69, Tryz.ntmps69
  go_wp2
  rw [Lib.run_neq_ptr_same w _ Tryz.underlying71 hj]
  go_wp2
  go_end0
  exact ⟨rfl, rfl⟩

set_option maxHeartbeats 1000000 in
set_option maxRecDepth 100000 in
theorem copyCheck_fresh (b : Nat) (w : World) (h0 : w.cell? ⟨b, 0, Option.none⟩ = some (.pointer Option.none)) (hsh : w.shape? b = some (74, 2)) (hfz : w.frozen? ⟨b, 0, Option.none⟩ = false) :
    Calls Tryz.prog 69 #[.pointer (some ⟨b, 0, Option.none⟩)] w fun e w' => e = .returned (.tuple #[]) ∧ w' = w.setCell ⟨b, 0, Option.none⟩ (.pointer (some ⟨b, 0, Option.none⟩)) := by
  obtain ⟨j, hj, hjs⟩ := Option.map_eq_some_iff.1 infoBuilder
  go_enter Tryz.func69, Tryz.ntmps69
  go_wp2
  rw [Lib.run_to_unsafe w ⟨b, 0, Option.none⟩ Tryz.underlying71 Tryz.underlying110 hj (by rw [hjs]; decide) hsh (Nat.zero_lt_succ 1)]
  simp only [Result.andThen]
  rw [Oper.upon_value]
  go_wp2
  rw [run_callFunc_extern Tryz.func82 (by kernel_rfl) (by kernel_rfl) (by kernel_rfl) (e := Extern.AbiNoEscape.same) (by kernel_rfl)]
  rw [Lib.run_noEscape]
  simp only [Result.andThen]
  rw [Oper.upon_value]
  go_wp2
  rw [Lib.run_from_unsafe w ⟨b, 0, Option.none⟩ Tryz.underlying110 Tryz.underlying71 hj hsh liesBuilder]
  simp only [Result.andThen]
  rw [Oper.upon_value]
  go_wp2
  go_end0
  exact ⟨rfl, rfl⟩

theorem copyCheck_any (B b : Nat) (bs : List Value) (w : World) (h : Lib.IsBuilder 74 5 B b bs w) :
    Calls Tryz.prog 69 #[.pointer (some ⟨b, 0, Option.none⟩)] w fun e w' => e = .returned (.tuple #[]) ∧ (Lib.BuilderAt 74 5 B b (.pointer (some ⟨b, 0, Option.none⟩)) bs w' ∧ Below B w w') := by
  rcases h with h | h
  · refine (copyCheck_fresh b w h.cell0 h.shape h.frozen0).mono ?_
    rintro e w' ⟨rfl, rfl⟩
    exact ⟨rfl, h.used _, (Below.refl B w).setCell (p := ⟨b, 0, Option.none⟩) h.1 _⟩
  · refine (copyCheck_used b w h.cell0).mono ?_
    rintro e w' ⟨rfl, rfl⟩
    exact ⟨rfl, h, Below.refl B _⟩

set_option maxHeartbeats 2000000 in
set_option maxRecDepth 100000 in
theorem writeString_any (B b : Nat) (bs : List Value) (s : ByteArray) (w : World) (h : Lib.IsBuilder 74 5 B b bs w) (hlen : bs.length + s.size ≤ 140737488355328) (hBw : B ≤ w.heap.size) :
    Calls Tryz.prog 49 #[.pointer (some ⟨b, 0, Option.none⟩), .string s] w fun e w' => e = .returned (.tuple #[.int .i64 s.size, .nilIface]) ∧ (Lib.BuilderAt 74 5 B b (.pointer (some ⟨b, 0, Option.none⟩)) (bs ++ Lib.strCells s) w' ∧ Below B w w') := by
  obtain ⟨i0, hi, hz0, hz1, hz2⟩ := info_parts' infoByte
  go_enter Tryz.func49, Tryz.ntmps49
  go_wp2_with (go_at_call 69; refine (copyCheck_any B b bs _ h).mono ?_)
  rintro e w1 ⟨rfl, h1, hb1⟩
  obtain ⟨hB, v, hbk, hown, hne⟩ := h1
  have c0 : w1.cell? ⟨b, 0, Option.none⟩ = some (.pointer (some ⟨b, 0, Option.none⟩)) := by rw [Lib.cell_of_heap hbk]; rfl
  have c1 : w1.cell? ⟨b, 1, Option.none⟩ = some v := by rw [Lib.cell_of_heap hbk]; rfl
  go_wp2_with (at_builtin; refine Lib.wpList_append_own_string _ rfl _ _ 72 9 rfl B 5 i0 Tryz.underlying72 Tryz.underlying9 hi hz0 hz1 hz2 _ _ _ rfl hown s rfl ?c3 ?c4 ?c5 ?_)
  case c3 => unfold maxLen; omega
  case c4 => omega
  case c5 => have := hb1.size; omega
  intro v' w2 hown' hgrow _
  have hlt : b < w1.heap.size := by
    rcases Nat.lt_or_ge b w1.heap.size with h' | h'
    · exact h'
    · simp [Array.getElem?_eq_none h'] at hbk
  have hb2 : w2.heap[b]? = some (.cells #[.pointer (some ⟨b, 0, Option.none⟩), v] 74 (0, 0)) := by
    rw [hgrow.block b hlt (fun e => hne e.symm)]
    exact hbk
  have d0 : w2.cell? ⟨b, 0, Option.none⟩ = some (.pointer (some ⟨b, 0, Option.none⟩)) := by rw [Lib.cell_of_heap hb2]; rfl
  have d1 : w2.cell? ⟨b, 1, Option.none⟩ = some v := by rw [Lib.cell_of_heap hb2]; rfl
  have f1 : w2.frozen? ⟨b, 1, Option.none⟩ = false := Lib.frozen_of_heap hb2 1
  obtain ⟨ao, n', cap, rfl⟩ : ∃ ao n' cap, v' = .slice ao n' cap := by
    rcases hown'.2 with ⟨hv, _⟩ | ⟨g, cap, cur, hv, _⟩
    · exact ⟨_, _, _, hv⟩
    · exact ⟨_, _, _, hv⟩
  go_wp2
  go_ret2
  refine ⟨rfl, ?_, ?_⟩
  · exact Lib.BuilderAt.put (T := 74) (e := 5) hB hb2 (bs' := bs ++ Lib.strCells s) (by simpa [Lib.strCells_length] using hown') (by decide)
  · exact (hb1.grown hgrow (by have := hb1.size; omega) (fun k hk => (hown.lt k hk).1)).setCell (p := ⟨b, 1, Option.none⟩) hB _

theorem own_below' {w w' : World} {base : Nat} {e : TypeId} {size n : Nat} {v : Value} {xs : List Value} (h : w.ownsRow base e size v n xs) (hb : Below w.heap.size w w') : w'.ownsRow base e size v n xs := own_below h hb (Nat.le_refl _)
theorem builderAt_below {T e : TypeId} {B b : Nat} {v0 : Value} {bs : List Value} {w w' : World} (h : Lib.BuilderAt T e B b v0 bs w) (hb : Below w.heap.size w w') : Lib.BuilderAt T e B b v0 bs w' := by
  have hl : b < w.heap.size := by
    obtain ⟨h1, v, h2, h3, h4⟩ := h
    exact (Array.getElem?_eq_some_iff.1 h2).1
  obtain ⟨h1, v, h2, h3, h4⟩ := h
  exact ⟨h1, v, (hb.block b hl).trans h2, own_below' h3 hb, h4⟩
theorem isBuilder_below {T e : TypeId} {B b : Nat} {bs : List Value} {w w' : World} (h : Lib.IsBuilder T e B b bs w) (hb : Below w.heap.size w w') : Lib.IsBuilder T e B b bs w' := by
  rcases h with h | h
  · exact .inl (builderAt_below h hb)
  · exact .inr (builderAt_below h hb)
theorem bytes_append (a b : List UInt8) : Lib.byteCells (a ++ b) = Lib.byteCells a ++ Lib.byteCells b := by simp [Lib.byteCells]
theorem strCells_eq (l : List UInt8) : Lib.strCells ⟨l.toArray⟩ = Lib.byteCells l := by simp [Lib.strCells, Lib.byteCells]
/-- A builder that holds these bytes. -/
def Bd (B bb : Nat) (l : List UInt8) (w : World) : Prop := Lib.IsBuilder 74 5 B bb (Lib.byteCells l) w
theorem Bd.below {B bb : Nat} {l : List UInt8} {w w' : World} (h : Bd B bb l w) (hb : Below w.heap.size w w') : Bd B bb l w' := isBuilder_below h hb
def RetWS (B bb : Nat) (l s : List UInt8) (w : World) (e : Ending) (w' : World) : Prop := e = .returned (.tuple #[.int .i64 s.length, .nilIface]) ∧ Bd B bb (l ++ s) w' ∧ Below B w w'
theorem ws_any (B bb : Nat) (l s : List UInt8) (w : World) (h : Bd B bb l w) (hlen : l.length + s.length ≤ 140737488355328) (hBw : B ≤ w.heap.size) :
    Calls Tryz.prog 49 #[.pointer (some ⟨bb, 0, Option.none⟩), .string ⟨s.toArray⟩] w (RetWS B bb l s w) := by
  refine (writeString_any B bb _ ⟨s.toArray⟩ w h (by rw [Lib.byteCells_length]; simpa [ByteArray.size] using hlen) hBw).mono ?_
  rintro e w' ⟨rfl, h1, h2⟩
  refine ⟨by simp [ByteArray.size], .inr ?_, h2⟩
  rw [bytes_append, ← strCells_eq]
  exact h1
theorem ret_str {a : ByteArray} {l : List UInt8} (h : a.data.toList = l) : Ending.returned (.string a) = .returned (.string ⟨l.toArray⟩) := by
  subst h
  rfl
theorem below_grow' (w : World) (k : Nat) (os : Array Obj) : Below w.heap.size w (Go.Sort.grow (w.drewN k) os) :=
  ⟨rfl, rfl, rfl, by show w.heap.size ≤ (w.heap ++ os).size; simp, fun j hj => by show (w.heap ++ os)[j]? = w.heap[j]?; rw [Array.getElem?_append_left hj]⟩
theorem itoa_any (n : Int) (h0 : -9223372036854775808 ≤ n) (h1 : n ≤ 9223372036854775807) (w : World) (T : Lw w) : Calls Tryz.prog 51 #[.int .i64 n] w (RetStr (Lib.itoa n) w) := by
  refine (Tryz.strconv_Itoa n h0 h1 w T.tab).mono ?_
  rintro e w' ⟨rfl, k, os, rfl⟩
  exact ⟨rfl, below_grow' w k os⟩
theorem decDigits_len : ∀ (k u : Nat), u < 10 ^ (k + 1) → (Lib.decDigits u).length ≤ k + 1
  | 0, u, h => by rw [Lib.decDigits]; rw [dif_pos (by simpa using h)]; simp
  | k + 1, u, h => by
    rw [Lib.decDigits]
    split
    · simp
    · rw [List.length_append, List.length_singleton]
      have := decDigits_len k (u / 10) (by rw [Nat.pow_succ] at h; omega)
      omega
theorem itoa_len (k : Nat) (n : Int) (h0 : 0 ≤ n) (h1 : n.toNat < 10 ^ (k + 1)) : (Lib.itoa n).length ≤ k + 1 := by
  unfold Lib.itoa
  rw [if_neg (by omega)]
  exact decDigits_len k _ h1
def boolS (b : Bool) : List UInt8 := if b then [116, 114, 117, 101] else [102, 97, 108, 115, 101]
theorem fbool_any (b : Bool) (w : World) : Calls Tryz.prog 50 #[.bool b] w (RetStr (boolS b) w) := by
  refine (Tryz.strconv_FormatBool b w).mono ?_
  rintro e w' ⟨rfl, rfl⟩
  refine ⟨?_, Below.refl _ _⟩
  cases b <;> rfl
set_option maxRecDepth 100000 in
set_option maxHeartbeats 2000000 in
theorem infix_any (op : Int) (w : World) : Calls Tryz.prog 52 #[.int .i64 op] w (RetBs (infixB op) w) := by
  by_cases h1 : 5 ≤ op
  · by_cases h2 : op ≤ 12
    · have HT := Lib.hid (show infixB op = true by unfold infixB; simp [h1, h2])
      have d1 : decide (5 ≤ op) = true := by simp [h1]
      have d2 : decide (op ≤ 12) = true := by simp [h2]
      go_enter Tryz.func52, Tryz.ntmps52
      go_wp2
      go_ret
      exact ⟨ret_bool HT.out.symm, rfl⟩
    · have HT := Lib.hid (show infixB op = false by unfold infixB; simp [h2])
      have d1 : decide (5 ≤ op) = true := by simp [h1]
      have d2 : decide (op ≤ 12) = false := by simp [h2]
      go_enter Tryz.func52, Tryz.ntmps52
      go_wp2
      go_ret
      exact ⟨ret_bool HT.out.symm, rfl⟩
  · have HT := Lib.hid (show infixB op = false by unfold infixB; simp [h1])
    have d1 : decide (5 ≤ op) = false := by simp [h1]
    go_enter Tryz.func52, Tryz.ntmps52
    go_wp2
    go_ret
    exact ⟨ret_bool HT.out.symm, rfl⟩
end Go.Proofs.YtmbmngnnfkdngaaGreatDoor
