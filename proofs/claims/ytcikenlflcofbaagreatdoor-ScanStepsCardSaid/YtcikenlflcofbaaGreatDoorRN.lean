/-
  Small functions of the reference on operations and names.
-/
import Derived.Test.YtcikenlflcofbaaGreatDoorWN
import Derived.Deep.LoopGhost
namespace Go.Proofs.YtcikenlflcofbaaGreatDoor
open Go.RowKit

set_option maxRecDepth 100000 in
set_option maxHeartbeats 4000000 in
theorem rarity_any (op : Int) (w : World) : Calls Tryz.prog 64 #[.int .i64 op] w (RetIs (arityP op) w) := by
  by_cases hr : 1 ≤ op ∧ op ≤ 22
  · have hop : op = 1 ∨ op = 2 ∨ op = 3 ∨ op = 4 ∨ op = 5 ∨ op = 6 ∨ op = 7 ∨ op = 8 ∨ op = 9 ∨ op = 10 ∨ op = 11 ∨ op = 12 ∨ op = 13 ∨ op = 14 ∨ op = 15 ∨ op = 16 ∨ op = 17 ∨ op = 18 ∨ op = 19 ∨ op = 20 ∨ op = 21 ∨ op = 22 := by omega
    clear hr
    rcases hop with rfl | rfl | rfl | rfl | rfl | rfl | rfl | rfl | rfl | rfl | rfl | rfl | rfl | rfl | rfl | rfl | rfl | rfl | rfl | rfl | rfl | rfl
    all_goals
      go_enter Tryz.func64, Tryz.ntmps64
      go_wp2
      go_ret
      exact ⟨rfl, rfl⟩
  · have ha : arityP op = -1 := by unfold arityP; rw [if_neg (by omega), if_neg (by omega), if_neg (by omega), if_neg (by omega)]
    have HA := Lib.hid ha
    clear ha
    rcases (by omega : op < 1 ∨ 22 < op) with h | h
    all_goals
      clear hr
      go_enter Tryz.func64, Tryz.ntmps64
      go_wp2
      go_ret
      exact ⟨ret_int HA.out.symm, rfl⟩

set_option maxRecDepth 100000 in
set_option maxHeartbeats 4000000 in
theorem rletter_any (c : UInt8) (w : World) : Calls Tryz.prog 39 #[.int .u8 c.toNat] w (RetBs (letterB c) w) := by
  by_cases i0 : c.toNat ≤ 64
  · have hlo : 0 ≤ c.toNat := by omega
    have HB := Lib.hid (show letterB c = false by rw [letterB_nat]; simp; omega)
    have b2 : (c.toNat : Int) ≤ 64 := by omega
    clear hlo i0
    go_enter Tryz.func39, Tryz.ntmps39
    go_wp2
    go_ret
    exact ⟨ret_bool (by rw [HB.out] <;> simp <;> omega), rfl⟩
  by_cases i1 : c.toNat ≤ 90
  · have hlo : 65 ≤ c.toNat := by omega
    have HB := Lib.hid (show letterB c = true by rw [letterB_nat]; simp; omega)
    have b1 : (65 : Int) ≤ (c.toNat : Int) := by omega
    have b2 : (c.toNat : Int) ≤ 90 := by omega
    clear hlo i0 i1
    go_enter Tryz.func39, Tryz.ntmps39
    go_wp2
    go_ret
    exact ⟨ret_bool (by rw [HB.out] <;> simp <;> omega), rfl⟩
  by_cases i2 : c.toNat ≤ 96
  · have hlo : 91 ≤ c.toNat := by omega
    have HB := Lib.hid (show letterB c = false by rw [letterB_nat]; simp; omega)
    have b1 : (91 : Int) ≤ (c.toNat : Int) := by omega
    have b2 : (c.toNat : Int) ≤ 96 := by omega
    clear hlo i0 i1 i2
    go_enter Tryz.func39, Tryz.ntmps39
    go_wp2
    go_ret
    exact ⟨ret_bool (by rw [HB.out] <;> simp <;> omega), rfl⟩
  by_cases i3 : c.toNat ≤ 122
  · have hlo : 97 ≤ c.toNat := by omega
    have HB := Lib.hid (show letterB c = true by rw [letterB_nat]; simp; omega)
    have b1 : (97 : Int) ≤ (c.toNat : Int) := by omega
    have b2 : (c.toNat : Int) ≤ 122 := by omega
    clear hlo i0 i1 i2 i3
    go_enter Tryz.func39, Tryz.ntmps39
    go_wp2
    go_ret
    exact ⟨ret_bool (by rw [HB.out] <;> simp <;> omega), rfl⟩
  have hlo : 123 ≤ c.toNat := by omega
  have HB := Lib.hid (show letterB c = false by rw [letterB_nat]; simp; omega)
  have b1 : (123 : Int) ≤ (c.toNat : Int) := by omega
  clear hlo i0 i1 i2 i3
  go_enter Tryz.func39, Tryz.ntmps39
  go_wp2
  go_ret
  exact ⟨ret_bool (by rw [HB.out] <;> simp <;> omega), rfl⟩
set_option maxRecDepth 100000 in
set_option maxHeartbeats 4000000 in
theorem rdigit_any (c : UInt8) (w : World) : Calls Tryz.prog 41 #[.int .u8 c.toNat] w (RetBs (digitB c) w) := by
  by_cases i0 : c.toNat ≤ 47
  · have hlo : 0 ≤ c.toNat := by omega
    have HB := Lib.hid (show digitB c = false by rw [digitB_nat]; simp; omega)
    have b2 : (c.toNat : Int) ≤ 47 := by omega
    clear hlo i0
    go_enter Tryz.func41, Tryz.ntmps41
    go_wp2
    go_ret
    exact ⟨ret_bool (by rw [HB.out] <;> simp <;> omega), rfl⟩
  by_cases i1 : c.toNat ≤ 57
  · have hlo : 48 ≤ c.toNat := by omega
    have HB := Lib.hid (show digitB c = true by rw [digitB_nat]; simp; omega)
    have b1 : (48 : Int) ≤ (c.toNat : Int) := by omega
    have b2 : (c.toNat : Int) ≤ 57 := by omega
    clear hlo i0 i1
    go_enter Tryz.func41, Tryz.ntmps41
    go_wp2
    go_ret
    exact ⟨ret_bool (by rw [HB.out] <;> simp <;> omega), rfl⟩
  have hlo : 58 ≤ c.toNat := by omega
  have HB := Lib.hid (show digitB c = false by rw [digitB_nat]; simp; omega)
  have b1 : (58 : Int) ≤ (c.toNat : Int) := by omega
  clear hlo i0 i1
  go_enter Tryz.func41, Tryz.ntmps41
  go_wp2
  go_ret
  exact ⟨ret_bool (by rw [HB.out] <;> simp <;> omega), rfl⟩

/-- The reference's table of words: two slices in new blocks. -/
def resOps : List Int := [0, 0, 4, 5, 6, 7, 13, 14, 15, 16, 17, 18, 19, 20, 21, 22]
def resCells : List Value := resWords.map fun l => Value.string ⟨l.toArray⟩
def ropCells : List Value := resOps.map fun n => Value.int .i64 n
structure WordsAt (w : World) (b c : Nat) : Prop where
  words : w.heap[b]? = some (.cells resCells.toArray 9 (0, 0))
  ops : w.heap[c]? = some (.cells ropCells.toArray 3 (0, 0))
theorem WordsAt.below {w w' : World} {b c : Nat} (h : WordsAt w b c) (hb : Below w.heap.size w w') : WordsAt w' b c :=
  ⟨(hb.block b (Array.getElem?_eq_some_iff.1 h.words).1).trans h.words, (hb.block c (Array.getElem?_eq_some_iff.1 h.ops).1).trans h.ops⟩
theorem WordsAt.word {w : World} {b c : Nat} (h : WordsAt w b c) {k : Nat} (hk : k < 16) : w.cell? ⟨b, k, Option.none⟩ = some (.string ⟨(resWords.getD k []).toArray⟩) := by
  rw [cell_of_row w b k _ _ (0, 0) h.words]
  have : k < resWords.length := hk
  simp [resCells, List.getD_eq_getElem?_getD, this]
theorem WordsAt.op {w : World} {b c : Nat} (h : WordsAt w b c) {k : Nat} (hk : k < 16) : w.cell? ⟨c, k, Option.none⟩ = some (.int .i64 (resOps.getD k 0)) := by
  rw [cell_of_row w c k _ _ (0, 0) h.ops]
  have : k < resOps.length := hk
  simp [ropCells, List.getD_eq_getElem?_getD, this]
def RetWords (w : World) (e : Ending) (w' : World) : Prop := ∃ b c, e = .returned (.tuple #[.slice (some ⟨b, 0, Option.none⟩) 16 16, .slice (some ⟨c, 0, Option.none⟩) 16 16]) ∧ WordsAt w' b c ∧ Below w.heap.size w w'
set_option maxRecDepth 100000 in
set_option maxHeartbeats 4000000 in
theorem rwords_any (w : World) : Calls Tryz.prog 65 #[] w (RetWords w) := by
  go_enter Tryz.func65, Tryz.ntmps65
  go_wp2
  refine bodyPost_ret (v := .tuple #[.slice (some ⟨w.heap.size, 0, Option.none⟩) 16 16, .slice (some ⟨w.heap.size + 1, 0, Option.none⟩) 16 16]) (by simp [results, Tryz.results65, go_sem]) rfl ⟨_, _, rfl, ⟨?_, ?_⟩, ?_⟩
  · exact (Below.heap_alloc _ _ _ (by rw [World.size_alloc]; omega)).trans (heap_alloc_new w _)
  · have h := heap_alloc_new (w.alloc (.cells resCells.toArray 9)) (.cells ropCells.toArray 3)
    rw [World.size_alloc] at h
    exact h
  · exact ((Below.refl _ w).alloc (Nat.le_refl _) _).alloc (by rw [World.size_alloc]; omega) _

def RsR (W0 : World) (s : List UInt8) (g : Nat) (v : Value) (wr : World) : Prop := ∃ k : Nat, k ≤ 16 ∧ 16 - k < g ∧ v = .int .i64 (k : Int) ∧ (∀ j, j < k → (resWords.getD j [] == s) = false) ∧ wr = W0
theorem res_of {s : List UInt8} {k : Nat} (hk : k < 16) (h : (resWords.getD k [] == s) = true) : reservedB s = true := by
  have hl : k < resWords.length := hk
  unfold reservedB
  rw [List.contains_iff_mem]
  have := eq_of_beq h
  rw [← this, List.getD_eq_getElem?_getD, List.getElem?_eq_getElem hl]
  exact List.getElem_mem hl
theorem res_none {s : List UInt8} (h : ∀ j, j < 16 → (resWords.getD j [] == s) = false) : reservedB s = false := by
  unfold reservedB
  rw [Bool.eq_false_iff]
  intro q
  rw [List.contains_iff_mem] at q
  obtain ⟨j, hj, he⟩ := List.getElem_of_mem q
  have := h j hj
  rw [List.getD_eq_getElem?_getD, List.getElem?_eq_getElem hj, Option.getD_some, he] at this
  simp at this
set_option maxRecDepth 100000 in
set_option maxHeartbeats 4000000 in
theorem rreserved_any (s : List UInt8) (w : World) : Calls Tryz.prog 40 #[.string ⟨s.toArray⟩] w (RetBool (reservedB s) w) := by
  go_enter Tryz.func40, Tryz.ntmps40
  go_wp2_with fail
  refine (rwords_any w).mono ?_
  rintro e w1 ⟨b, c, rfl, hW, hb1⟩
  have HW := Lib.hid hW
  have HB := Lib.hid hb1
  clear hW hb1
  go_wp2
  go_loopg [13] 17 (fun g v wr => RsR w1 s g v wr)
  case atStart => exact ⟨0, by omega, by omega, rfl, fun j h => absurd h (Nat.not_lt_zero _), rfl⟩
  case round =>
    obtain ⟨k, hk, hg, rfl, hall, rfl⟩ := hrel
    have HALL := Lib.hid hall
    clear hall
    by_cases hlt : k < 16
    · have hc := HW.out.word hlt
      obtain ⟨x, hx⟩ : ∃ x, resWords.getD k [] = x := ⟨_, rfl⟩
      rw [hx] at hc
      have HX := Lib.hid hx
      clear hx
      cases hb : (x == s) with
      | true =>
        have HF := Lib.hid (res_of hlt (by rw [HX.out]; exact hb))
        go_wp2
        go_ret
        exact ⟨ret_bool HF.out.symm, HB.out⟩
      | false =>
        have HF := Lib.hid hb
        go_wp2
        go_roundg (16 - k)
        case measure => omega
        case rel => exact ⟨k + 1, by omega, by omega, by go_num, fun j hj => by rcases Nat.lt_succ_iff_lt_or_eq.1 hj with q | rfl; exact HALL.out j q; rw [HX.out]; exact HF.out, rfl⟩
    · obtain rfl : k = 16 := by omega
      have HF := Lib.hid (res_none HALL.out)
      go_wp2
      go_ret
      exact ⟨ret_bool HF.out.symm, HB.out⟩

def RnR (W0 : World) (s : List UInt8) (g : Nat) (v : Value) (wr : World) : Prop := ∃ k : Nat, k ≤ s.length ∧ s.length - k < g ∧ v = .int .i64 (k : Int) ∧ (∀ j c, j < k → s[j]? = some c → wordB c = true) ∧ wr = W0
theorem name_bad {s : List UInt8} {k : Nat} {c : UInt8} (hc : s[k]? = some c) (ho : wordB c = false) : nameB s = false := by
  have hl : okB k c = false := by
    unfold okB
    split
    · unfold wordB at ho
      simp only [Bool.or_eq_false_iff] at ho
      exact ho.1.1
    · exact ho
  unfold nameB
  rw [plainB_bad hc hl]
  rfl
theorem name_ok {s : List UInt8} (h0 : ¬ s = []) (h1 : ¬ 12 < s.length) (hl : ∀ c, s[0]? = some c → letterB c = true) (hr : reservedB s = false) (h : ∀ j c, j < s.length → s[j]? = some c → wordB c = true) : nameB s = true := by
  unfold nameB
  rw [plainB_ok h0 h1 (fun j c hj hc => by
    unfold okB
    split
    · next q => subst q; exact hl c hc
    · exact h j c hj hc), hr]
  rfl
set_option maxRecDepth 100000 in
set_option maxHeartbeats 4000000 in
theorem rname_any (s : List UInt8) (w : World) (hs : s.length ≤ maxLen) : Calls Tryz.prog 20 #[.string ⟨s.toArray⟩] w (RetBool (nameB s) w) := by
  unfold maxLen at hs
  by_cases h0 : s = []
  · subst h0
    go_enter Tryz.func20, Tryz.ntmps20
    go_wp2
    go_ret
    exact ⟨rfl, Below.refl _ _⟩
  have hP : 0 < s.length := List.length_pos_iff.2 h0
  have hL1 : ¬ (s.length : Int) < 1 := by omega
  have hL0 : 1 ≤ s.length := by omega
  by_cases h1 : 12 < s.length
  · have e0 := Lib.hid (show nameB s = false by unfold nameB; rw [plainB_long h1]; rfl)
    clear h0
    go_enter Tryz.func20, Tryz.ntmps20
    go_wp2
    go_ret
    exact ⟨ret_bool e0.out.symm, Below.refl _ _⟩
  have hL : ¬ (12 : Int) < (s.length : Int) := by omega
  obtain ⟨c0, hc0⟩ : ∃ c, s[0] = c := ⟨_, rfl⟩
  have hc0' : s[0]? = some c0 := by rw [List.getElem?_eq_getElem hP, hc0]
  have hkb0 : ({ data := s.toArray } : ByteArray)[0]'(by show 0 < s.toArray.size; simpa using hP) = c0 := hc0
  have C0 := rletter_any c0 w
  cases hl0 : letterB c0 with
  | false =>
    rw [hl0] at C0
    have HC0 := Lib.hid C0
    have e0 := Lib.hid (show nameB s = false by unfold nameB; rw [plainB_bad hc0' (by unfold okB; rw [if_pos rfl]; exact hl0)]; rfl)
    clear C0 hl0 hc0 hc0' h0
    go_enter Tryz.func20, Tryz.ntmps20
    go_wp2_with fail
    refine HC0.out.mono ?_
    rintro e w1 ⟨rfl, rfl⟩
    go_wp2
    go_ret
    exact ⟨ret_bool e0.out.symm, Below.refl _ _⟩
  | true =>
  rw [hl0] at C0
  have HC0 := Lib.hid C0
  have HL0 := Lib.hid (show ∀ c, s[0]? = some c → letterB c = true from fun c hc => by rw [hc0'] at hc; cases hc; exact hl0)
  have HNE := Lib.hid h0
  clear C0 hl0 hc0 hc0' h0
  cases hr : reservedB s with
  | true =>
    have C1 := rreserved_any s w
    rw [hr] at C1
    have HC1 := Lib.hid C1
    have e0 := Lib.hid (show nameB s = false by unfold nameB; rw [hr]; simp)
    clear C1 hr
    go_enter Tryz.func20, Tryz.ntmps20
    go_wp2_with fail
    refine HC0.out.mono ?_
    rintro e w1 ⟨rfl, rfl⟩
    go_wp2_with fail
    refine HC1.out.mono ?_
    rintro e w1 ⟨rfl, hb1⟩
    go_wp2
    go_ret
    exact ⟨ret_bool e0.out.symm, hb1⟩
  | false =>
  have C1 := rreserved_any s w
  rw [hr] at C1
  have HC1 := Lib.hid C1
  have HR := Lib.hid hr
  clear C1 hr
  go_enter Tryz.func20, Tryz.ntmps20
  go_wp2_with fail
  refine HC0.out.mono ?_
  rintro e w1 ⟨rfl, rfl⟩
  go_wp2_with fail
  refine HC1.out.mono ?_
  rintro e w1 ⟨rfl, hb1⟩
  have HB := Lib.hid hb1
  clear hb1 hkb0
  go_wp2
  go_loopg [3] (s.length + 1) (fun g v wr => RnR w1 s g v wr)
  case atStart => exact ⟨0, Nat.zero_le _, by omega, rfl, fun j c h => absurd h (Nat.not_lt_zero _), rfl⟩
  case round =>
    obtain ⟨k, hk, hg, rfl, hall, rfl⟩ := hrel
    have HALL := Lib.hid hall
    clear hall
    by_cases hlt : k < s.length
    · obtain ⟨c, hcc⟩ : ∃ c, s[k] = c := ⟨_, rfl⟩
      have hkb : ({ data := s.toArray } : ByteArray)[k]'(by show k < s.toArray.size; simpa using hlt) = c := hcc
      have HC := Lib.hid (show s[k]? = some c by rw [List.getElem?_eq_getElem hlt, hcc])
      have L1 := fun W => rletter_any c W
      have D1 := fun W => rdigit_any c W
      have hwb : wordB c = (letterB c || digitB c || c == 95) := rfl
      have h95 : (c == 95) = ((c.toNat : Int) == 95) := by
        rw [Bool.eq_iff_iff]
        simp [← UInt8.toNat_inj]
        omega
      rw [h95] at hwb
      generalize letterB c = lb at *
      generalize digitB c = db at *
      have HL1 := Lib.hid L1
      have HD1 := Lib.hid D1
      have HWB := Lib.hid hwb
      clear hcc L1 D1 hwb h95
      have hstep : wordB c = true → ∀ j x, j < k + 1 → s[j]? = some x → wordB x = true := by
        intro hw j x hj hx
        rcases Nat.lt_succ_iff_lt_or_eq.1 hj with q | rfl
        · exact HALL.out j x q hx
        · rw [HC.out] at hx; cases hx; exact hw
      have HS := Lib.hid hstep
      clear hstep
      cases lb with
      | true =>
        go_wp2_with fail
        refine (HL1.out _).mono ?_
        rintro e w5 ⟨rfl, rfl⟩
        go_wp2
        go_roundg (s.length - k)
        case measure => omega
        case rel => exact ⟨k + 1, by omega, by omega, by go_num, HS.out (by rw [HWB.out]; rfl), rfl⟩
      | false =>
      cases db with
      | true =>
        go_wp2_with fail
        refine (HL1.out _).mono ?_
        rintro e w5 ⟨rfl, rfl⟩
        go_wp2_with fail
        refine (HD1.out _).mono ?_
        rintro e w5 ⟨rfl, rfl⟩
        go_wp2
        go_roundg (s.length - k)
        case measure => omega
        case rel => exact ⟨k + 1, by omega, by omega, by go_num, HS.out (by rw [HWB.out]; rfl), rfl⟩
      | false =>
      cases hu : ((c.toNat : Int) == 95) with
      | true =>
        have hu2 : ((c.toNat : Int) != 95) = false := by simp only [bne, hu]; rfl
        have HU := Lib.hid hu
        clear hu
        go_wp2_with fail
        refine (HL1.out _).mono ?_
        rintro e w5 ⟨rfl, rfl⟩
        go_wp2_with fail
        refine (HD1.out _).mono ?_
        rintro e w5 ⟨rfl, rfl⟩
        go_wp2
        go_roundg (s.length - k)
        case measure => omega
        case rel => exact ⟨k + 1, by omega, by omega, by go_num, HS.out (by rw [HWB.out, HU.out]; rfl), rfl⟩
      | false =>
        have hu2 : ((c.toNat : Int) != 95) = true := by simp only [bne, hu]; rfl
        have HU := Lib.hid hu
        clear hu
        have e0 := Lib.hid (name_bad HC.out (by rw [HWB.out, HU.out]; rfl))
        go_wp2_with fail
        refine (HL1.out _).mono ?_
        rintro e w5 ⟨rfl, rfl⟩
        go_wp2_with fail
        refine (HD1.out _).mono ?_
        rintro e w5 ⟨rfl, rfl⟩
        go_wp2
        go_ret
        exact ⟨ret_bool e0.out.symm, HB.out⟩
    · obtain rfl : k = s.length := by omega
      have e0 := Lib.hid (name_ok HNE.out h1 HL0.out HR.out HALL.out)
      go_wp2
      go_ret
      exact ⟨ret_bool e0.out.symm, HB.out⟩
end Go.Proofs.YtcikenlflcofbaaGreatDoor
