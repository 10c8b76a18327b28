/-
  The reference's value of digits, its symbols and the operation of a word.
-/
import Derived.Test.YtmbmngnnfkdngaaGreatDoorRdP
import Derived.Test.YtmbmngnnfkdngaaGreatDoorRN
import Derived.Lib.SlBytesConst
namespace Go.Proofs.YtmbmngnnfkdngaaGreatDoor
open Go.RowKit

theorem decV_snocR (l : List UInt8) (c : UInt8) : decV (l ++ [c]) = 10 * decV l + (c.toNat - 48) := by
  unfold decV
  rw [List.foldl_append]
  rfl
theorem decV_fold : ∀ (l : List UInt8) (a : Nat), l.all digitB = true → l.foldl (fun a c => 10 * a + (c.toNat - 48)) a < (a + 1) * 10 ^ l.length
  | [], a, _ => by simp
  | c :: l, a, h => by
    rw [List.all_cons, Bool.and_eq_true] at h
    have h1 := decV_fold l (10 * a + (c.toNat - 48)) h.2
    have h2 := h.1
    simp only [digitB, Bool.and_eq_true, decide_eq_true_eq] at h2
    have h3 : c.toNat ≤ 57 := h2.2
    have h4 : (10 * a + (c.toNat - 48) + 1) * 10 ^ l.length ≤ ((a + 1) * 10) * 10 ^ l.length := Nat.mul_le_mul_right _ (by omega)
    have h5 : (a + 1) * 10 ^ (l.length + 1) = ((a + 1) * 10) * 10 ^ l.length := by rw [Nat.pow_succ, Nat.mul_comm (10 ^ l.length), Nat.mul_assoc]
    rw [List.foldl_cons, List.length_cons, h5]
    exact Nat.lt_of_lt_of_le h1 h4
theorem decV_lt (l : List UInt8) (h : l.all digitB = true) : decV l < 10 ^ l.length := by
  have := decV_fold l 0 h
  simpa [decV] using this
def VlQ (W : World) (s : List UInt8) (g : Nat) (v iv : Value) (wr : World) : Prop := ∃ k : Nat, k ≤ s.length ∧ s.length - k < g ∧ v = .int .i64 (decV (s.take k)) ∧ iv = .int .i64 (k : Int) ∧ W = wr
set_option maxRecDepth 100000 in
set_option maxHeartbeats 4000000 in
theorem value_any (s : List UInt8) (h : s.all digitB = true) (hl : s.length ≤ 5) (w : World) : Calls Tryz.prog 40 #[.string ⟨s.toArray⟩] w (RetIs (decV s) w) := by
  have HD := Lib.hid h
  clear h
  go_enter Tryz.func40, Tryz.ntmps40
  go_wp2
  go_loopg [3, 4] (s.length + 1) (fun g v iv wr => VlQ w s g v iv wr)
  case atStart => exact ⟨0, Nat.zero_le _, by omega, by rw [List.take_zero]; rfl, rfl, rfl⟩
  case round =>
    obtain ⟨k, hk, hg, rfl, rfl, rfl⟩ := hrel
    by_cases hlt : k < s.length
    · obtain ⟨c, hcc⟩ : ∃ c, s[k] = c := ⟨_, rfl⟩
      have hkb : ({ data := s.toArray } : ByteArray)[k]'(by show k < s.toArray.size; simpa using hlt) = c := hcc
      have hdc : digitB c = true := by rw [← hcc]; exact List.all_eq_true.1 HD.out _ (List.getElem_mem hlt)
      simp only [digitB, Bool.and_eq_true, decide_eq_true_eq] at hdc
      have hc1 : 48 ≤ c.toNat := hdc.1
      have hc2 : c.toNat ≤ 57 := hdc.2
      have hT : s.take (k + 1) = s.take k ++ [c] := by rw [List.take_succ_eq_append_getElem hlt, hcc]
      have hb : decV (s.take k) < 10 ^ 5 := Nat.lt_of_lt_of_le (decV_lt (s.take k) (by
        rw [List.all_eq_true]
        intro x hx
        exact List.all_eq_true.1 HD.out x (List.mem_of_mem_take hx))) (Nat.pow_le_pow_right (by omega) (by rw [List.length_take]; omega))
      have HT := Lib.hid (show ((decV (s.take (k + 1)) : Nat) : Int) = 10 * (decV (s.take k) : Int) + ((c.toNat : Int) - 48) by rw [hT, decV_snocR]; omega)
      obtain ⟨m, hm⟩ : ∃ m : Int, ((decV (s.take k) : Nat) : Int) = m := ⟨_, rfl⟩
      have hm0 : 0 ≤ m := by omega
      have hm1 : m < 100000 := by omega
      rw [hm] at HT ⊢
      have e1 : 48 ≤ (c.toNat : Int) := by omega
      have e2 : (c.toNat : Int) ≤ 57 := by omega
      clear hcc hdc hT hb hm hc1 hc2
      go_wp2
      go_roundg (s.length - k)
      case measure => omega
      case rel => exact ⟨k + 1, by omega, by omega, by rw [HT.out], by go_num, rfl⟩
    · obtain rfl : k = s.length := by omega
      have HE := Lib.hid (show decV (s.take s.length) = decV s by rw [List.take_length])
      go_wp2
      go_ret
      exact ⟨ret_int (by rw [HE.out]), rfl⟩

def symL : List UInt8 := [40, 41, 44, 60, 62, 61, 43, 45]
def SyR (W : World) (c : UInt8) (g : Nat) (v : Value) (wr : World) : Prop := ∃ k : Nat, k ≤ 8 ∧ 8 - k < g ∧ v = .int .i64 (k : Int) ∧ (∀ j, j < k → (symL.getD j 0 == c) = false) ∧ wr = W
theorem sym_of {c : UInt8} {k : Nat} (hk : k < 8) (h : (symL.getD k 0 == c) = true) : symB c = true := by
  have hl : k < symL.length := hk
  show symL.contains c = _
  rw [List.contains_iff_mem]
  have := eq_of_beq h
  rw [← this, List.getD_eq_getElem?_getD, List.getElem?_eq_getElem hl]
  exact List.getElem_mem hl
theorem sym_none {c : UInt8} (h : ∀ j, j < 8 → (symL.getD j 0 == c) = false) : symB c = false := by
  show symL.contains c = _
  rw [Bool.eq_false_iff]
  intro q
  rw [List.contains_iff_mem] at q
  obtain ⟨j, hj, he⟩ := List.getElem_of_mem q
  have := h j hj
  rw [List.getD_eq_getElem?_getD, List.getElem?_eq_getElem hj, Option.getD_some, he] at this
  simp at this
set_option maxRecDepth 100000 in
set_option maxHeartbeats 4000000 in
theorem symbol_any (c : UInt8) (w : World) : Calls Tryz.prog 41 #[.int .u8 c.toNat] w (RetBool (symB c) w) := by
  have kc := fun (w : World) (C : Array Value) (n c : Nat) => Lib.run_convert_bytes_const (P := Tryz.prog) w 72 5 C n c Tryz.underlying72 Tryz.underlying5
  go_enter Tryz.func41, Tryz.ntmps41
  go_wp2
  go_loopg [8] 9 (fun g v wr => SyR (w.alloc (Obj.cells #[.int .u8 40, .int .u8 41, .int .u8 44, .int .u8 60, .int .u8 62, .int .u8 61, .int .u8 43, .int .u8 45] 5 (8, 9))) c g v wr)
  case atStart => exact ⟨0, by omega, by omega, rfl, fun j h => absurd h (Nat.not_lt_zero _), rfl⟩
  case round =>
    obtain ⟨k, hk, hg, rfl, hall, rfl⟩ := hrel
    have HALL := Lib.hid hall
    clear hall
    by_cases hlt : k < 8
    · have hcell : ∀ W : World, (W.alloc (Obj.cells #[.int .u8 40, .int .u8 41, .int .u8 44, .int .u8 60, .int .u8 62, .int .u8 61, .int .u8 43, .int .u8 45] 5 (8, 9))).cell? ⟨W.heap.size, k, Option.none⟩ = some (.int .u8 (symL.getD k 0).toNat) := by
        intro W
        rw [World.cell?_alloc_mark]
        rcases (by omega : k = 0 ∨ k = 1 ∨ k = 2 ∨ k = 3 ∨ k = 4 ∨ k = 5 ∨ k = 6 ∨ k = 7) with rfl | rfl | rfl | rfl | rfl | rfl | rfl | rfl <;> rfl
      have hc := hcell w
      obtain ⟨x, hx⟩ : ∃ x, (symL.getD k 0) = x := ⟨_, rfl⟩
      have HX := Lib.hid hx
      rw [hx] at hc
      have hxe : ((x.toNat : Int) == (c.toNat : Int)) = (x == c) := by
        rw [Bool.eq_iff_iff]
        simp [← UInt8.toNat_inj]
        omega
      clear hx hcell
      cases hb : (x == c) with
      | true =>
        rw [hb] at hxe
        have HF := Lib.hid (sym_of hlt (by rw [HX.out]; exact hb))
        clear hb
        go_wp2
        go_ret
        exact ⟨ret_bool HF.out.symm, (Below.refl _ w).alloc (Nat.le_refl _) _⟩
      | false =>
        rw [hb] at hxe
        have HF := Lib.hid hb
        clear hb
        go_wp2
        go_roundg (8 - k)
        case measure => omega
        case rel => exact ⟨k + 1, by omega, by omega, by go_num, fun j hj => by rcases Nat.lt_succ_iff_lt_or_eq.1 hj with q | rfl; exact HALL.out j q; rw [HX.out]; exact HF.out, rfl⟩
    · obtain rfl : k = 8 := by omega
      have HF := Lib.hid (sym_none HALL.out)
      go_wp2
      go_ret
      exact ⟨ret_bool HF.out.symm, (Below.refl _ w).alloc (Nat.le_refl _) _⟩

/-- The operation of a word, or 0. -/
def rcallP (s : List UInt8) : Int := (resOps.getD (resWords.findIdx (· == s)) 0)
def RcR (W0 : World) (s : List UInt8) (g : Nat) (v : Value) (wr : World) : Prop := ∃ k : Nat, k ≤ 16 ∧ 16 - k < g ∧ v = .int .i64 (k : Int) ∧ (∀ j, j < k → (resWords.getD j [] == s) = false) ∧ wr = W0
theorem rcall_hit {s : List UInt8} {k : Nat} (hk : k < 16) (h0 : ∀ j, j < k → (resWords.getD j [] == s) = false) (h : (resWords.getD k [] == s) = true) : rcallP s = resOps.getD k 0 := by
  have hl : k < resWords.length := hk
  unfold rcallP
  have : resWords.findIdx (· == s) = k := by
    rw [List.findIdx_eq hl]
    refine ⟨?_, fun j hj => ?_⟩
    · rw [List.getD_eq_getElem?_getD, List.getElem?_eq_getElem hl] at h
      exact h
    · have := h0 j hj
      rw [List.getD_eq_getElem?_getD, List.getElem?_eq_getElem (by omega)] at this
      exact this
  rw [this]
theorem rcall_miss {s : List UInt8} (h : ∀ j, j < 16 → (resWords.getD j [] == s) = false) : rcallP s = 0 := by
  unfold rcallP
  have : resWords.findIdx (· == s) = resWords.length := by
    rw [List.findIdx_eq_length]
    intro x hx
    obtain ⟨j, hj, rfl⟩ := List.getElem_of_mem hx
    have := h j hj
    rw [List.getD_eq_getElem?_getD, List.getElem?_eq_getElem hj] at this
    exact this
  rw [this]
  rfl
set_option maxRecDepth 100000 in
set_option maxHeartbeats 4000000 in
theorem rcallw_any (s : List UInt8) (w : World) : Calls Tryz.prog 79 #[.string ⟨s.toArray⟩] w (fun e w' => e = .returned (.int .i64 (rcallP s)) ∧ Below w.heap.size w w') := by
  go_enter Tryz.func79, Tryz.ntmps79
  go_wp2_with fail
  refine (rwords_any w).mono ?_
  rintro e w1 ⟨b, c, rfl, hW, hb1⟩
  have HW := Lib.hid hW
  have HB := Lib.hid hb1
  clear hW hb1
  go_wp2
  go_loopg [13] 17 (fun g v wr => RcR w1 s g v wr)
  case atStart => exact ⟨0, by omega, by omega, rfl, fun j h => absurd h (Nat.not_lt_zero _), rfl⟩
  case round =>
    obtain ⟨k, hk, hg, rfl, hall, rfl⟩ := hrel
    have HALL := Lib.hid hall
    clear hall
    by_cases hlt : k < 16
    · have hc := HW.out.word hlt
      have ho := HW.out.op hlt
      obtain ⟨x, hx⟩ : ∃ x, resWords.getD k [] = x := ⟨_, rfl⟩
      obtain ⟨y, hy⟩ : ∃ y, resOps.getD k 0 = y := ⟨_, rfl⟩
      rw [hx] at hc
      rw [hy] at ho
      have HX := Lib.hid hx
      have HY := Lib.hid hy
      clear hx hy
      cases hb : (x == s) with
      | true =>
        have HF := Lib.hid (rcall_hit hlt HALL.out (by rw [HX.out]; exact hb))
        go_wp2
        go_ret
        exact ⟨ret_int (by rw [HF.out, HY.out]), HB.out⟩
      | false =>
        have HF := Lib.hid hb
        go_wp2
        go_roundg (16 - k)
        case measure => omega
        case rel => exact ⟨k + 1, by omega, by omega, by go_num, fun j hj => by rcases Nat.lt_succ_iff_lt_or_eq.1 hj with q | rfl; exact HALL.out j q; rw [HX.out]; exact HF.out, rfl⟩
    · obtain rfl : k = 16 := by omega
      have HF := Lib.hid (rcall_miss HALL.out)
      go_wp2
      go_ret
      exact ⟨ret_int HF.out.symm, HB.out⟩
/-- What the reference's primary asks of a word. -/
theorem rcall_word {s : List UInt8} (hr : reservedB s = true) :
    (callWords.contains s = true ∧ rcallP s = operationP s ∧ 0 < arityP (operationP s) ∧ 13 ≤ operationP s ∧ operationP s ≤ 22) ∨
    (callWords.contains s = false ∧ (arityP (rcallP s) ≤ 0 ∨ rcallP s = 4 ∨ rcallP s = 5 ∨ rcallP s = 6 ∨ rcallP s = 7)) := by
  unfold reservedB at hr
  rw [List.contains_iff_mem] at hr
  unfold resWords at hr
  simp only [List.mem_cons, List.not_mem_nil, or_false] at hr
  rcases hr with rfl | rfl | rfl | rfl | rfl | rfl | rfl | rfl | rfl | rfl | rfl | rfl | rfl | rfl | rfl | rfl
  all_goals first | exact .inl (by decide) | exact .inr (by decide)
end Go.Proofs.YtmbmngnnfkdngaaGreatDoor
