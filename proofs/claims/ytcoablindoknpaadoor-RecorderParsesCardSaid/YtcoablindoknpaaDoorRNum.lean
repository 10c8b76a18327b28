/-
  number of the reference: digits at the beginning of a text.
-/
import Derived.Test.YtcoablindoknpaaDoorTextP
import Derived.Test.YtcoablindoknpaaDoorRText
namespace Go.Proofs.YtcoablindoknpaaDoor
open Go.RowKit

def rnG (most : Nat) : List UInt8 → Nat → Nat × List UInt8
  | [], n => (n, [])
  | c :: r, n => if digB c = true ∧ n ≤ most then rnG most r (10 * n + (c.toNat - 48)) else (n, c :: r)
def rnumP (most : Nat) (s : List UInt8) : Int × List UInt8 × Bool :=
  (((rnG most s 0).1 : Int), (rnG most s 0).2, decide ((rnG most s 0).2.length < s.length ∧ (rnG most s 0).1 ≤ most ∧ (s.length - (rnG most s 0).2.length = 1 ∨ s.head? ≠ some 48)))
def RetRN (p : Int × List UInt8 × Bool) (w : World) (e : Ending) (w' : World) : Prop := e = .returned (.tuple #[.int .i64 p.1, .string ⟨p.2.1.toArray⟩, .bool p.2.2]) ∧ Below w.heap.size w w'
def RnR (w : World) (most : Nat) (s : List UInt8) (n i : Value) (wr : World) : Prop := ∃ k m : Nat, k ≤ s.length ∧ i = .int .i64 k ∧ n = .int .i64 m ∧ m ≤ 10 * most + 9 ∧ rnG most s 0 = rnG most (s.drop k) m ∧ wr = w
theorem rn_stop {most : Nat} {s : List UInt8} {k m : Nat} {c : UInt8} (h : s[k]? = some c) (hc : ¬ (digB c = true ∧ m ≤ most)) : rnG most (s.drop k) m = (m, s.drop k) := by
  have hk := (List.getElem?_eq_some_iff.1 h).1
  rw [List.drop_eq_getElem_cons hk, (List.getElem?_eq_some_iff.1 h).2, rnG, if_neg hc]
theorem rn_go {most : Nat} {s : List UInt8} {k m : Nat} {c : UInt8} (h : s[k]? = some c) (hc : digB c = true) (hm : m ≤ most) : rnG most (s.drop k) m = rnG most (s.drop (k + 1)) (10 * m + (c.toNat - 48)) := by
  have hk := (List.getElem?_eq_some_iff.1 h).1
  rw [List.drop_eq_getElem_cons hk, (List.getElem?_eq_some_iff.1 h).2, rnG, if_pos ⟨hc, hm⟩]
theorem rn_end {most : Nat} {s : List UInt8} {m : Nat} : rnG most (s.drop s.length) m = (m, s.drop s.length) := by simp [rnG]

theorem ext_drop (s : List UInt8) (k : Nat) : ByteArray.extract ⟨s.toArray⟩ k s.length = ⟨(s.drop k).toArray⟩ := by
  rw [Lib.extract_eq]
  simp [List.take_of_length_le]
theorem rnum_eq {most : Nat} {s : List UInt8} {k m : Nat} {B : Bool} (h : rnG most s 0 = (m, s.drop k)) (hk : k ≤ s.length) (hB : (0 < k ∧ m ≤ most ∧ (k = 1 ∨ s.head? ≠ some 48)) ↔ B = true) : rnumP most s = ((m : Int), s.drop k, B) := by
  have e1 : decide ((s.drop k).length < s.length ∧ m ≤ most ∧ (s.length - (s.drop k).length = 1 ∨ s.head? ≠ some 48)) = B := by
    rw [Bool.eq_iff_iff, decide_eq_true_eq, ← hB, List.length_drop]
    constructor
    · rintro ⟨h1, h2, h3⟩
      exact ⟨by omega, h2, h3.imp (fun h => by omega) id⟩
    · rintro ⟨h1, h2, h3⟩
      exact ⟨by omega, h2, h3.imp (fun h => by omega) id⟩
  unfold rnumP
  rw [h, e1]

set_option maxRecDepth 100000 in
set_option maxHeartbeats 4000000 in
theorem rnum_any (s : List UInt8) (most : Nat) (hm : most ≤ 1000000000) (hs : s.length ≤ 2000) (w : World) : Calls Tryd.prog 55 #[.string ⟨s.toArray⟩, .int .i64 most] w (RetRN (rnumP most s) w) := by
  go_enter Tryd.func55, Tryd.ntmps55
  go_wp2
  go_loopw [7, 8] (RnR w most s) (fun _ i _ => s.length - (intOf i).toNat)
  case atStart => exact ⟨0, 0, Nat.zero_le _, rfl, rfl, Nat.zero_le _, rfl, rfl⟩
  case round =>
    obtain ⟨k, m, hk, rfl, rfl, hmm, hgo, rfl⟩ := hrel
    have hk' : (k : Int) ≤ (s.length : Int) := by omega
    by_cases hlt : k < s.length
    case neg =>
      have hst : rnG most s 0 = (m, s.drop k) := by
        obtain rfl : k = s.length := by omega
        rw [hgo, rn_end]
      have HST := Lib.hid hst
      clear hst hgo
      have hb1 : ¬ (k : Int) < (s.length : Int) := by omega
      go_upto_region 5 with fail
      rcases Nat.eq_zero_or_pos k with rfl | hkp
      · have d0 : decide ((0 : Int) < (0 : Int)) = false := rfl
        have HP := Lib.hid (rnum_eq (B := false) HST.out hk (by simp))
        go_quiet (fail)
        go_wp2
        refine bodyPost_ret (v := .tuple #[.int .i64 m, .string (ByteArray.extract ⟨s.toArray⟩ 0 s.length), .bool false]) (by simp [results, Tryd.results55, go_sem]) rfl ?_
        rw [HP.out]
        exact ⟨by rw [ext_drop], below_drewN (Below.refl _ _) _⟩
      have d0 : decide ((0 : Int) < (k : Int)) = true := by simpa using hkp
      have d0' : (0 : Int) < (k : Int) := by omega
      by_cases hmo : m ≤ most
      case neg =>
        have d1 : decide ((m : Int) ≤ (most : Int)) = false := by simp; omega
        have d1' : ¬ (m : Int) ≤ (most : Int) := by omega
        have HP := Lib.hid (rnum_eq (B := false) HST.out hk (by simp; omega))
        go_quiet (fail)
        go_wp2
        refine bodyPost_ret (v := .tuple #[.int .i64 m, .string (ByteArray.extract ⟨s.toArray⟩ k s.length), .bool false]) (by simp [results, Tryd.results55, go_sem]) rfl ?_
        rw [HP.out]
        exact ⟨by rw [ext_drop], below_drewN (Below.refl _ _) _⟩
      have d1 : decide ((m : Int) ≤ (most : Int)) = true := by simpa using hmo
      have d1' : (m : Int) ≤ (most : Int) := by omega
      by_cases hk1 : k = 1
      · subst hk1
        have HP := Lib.hid (rnum_eq (B := true) HST.out hk (by simp [hmo]))
        go_quiet (fail)
        go_wp2
        refine bodyPost_ret (v := .tuple #[.int .i64 m, .string (ByteArray.extract ⟨s.toArray⟩ 1 s.length), .bool true]) (by simp [results, Tryd.results55, go_sem]) rfl ?_
        rw [HP.out]
        exact ⟨by rw [ext_drop], below_drewN (Below.refl _ _) _⟩
      have d2 : ((k : Int) == 1) = false := by rw [beq_eq_false_iff_ne]; omega
      have hl0 : 0 < s.length := by omega
      have hh : s.head? = some s[0] := by rw [List.head?_eq_getElem?, List.getElem?_eq_getElem hl0]
      have hkb0 : ({ data := s.toArray } : ByteArray)[0]'(by show 0 < s.toArray.size; simpa using hl0) = s[0] := rfl
      have hl0' : (0 : Int) < (s.length : Int) := by omega
      generalize s[0] = c0 at *
      have HH := Lib.hid hh
      clear hh
      by_cases h48 : c0.toNat = 48
      · have e1 : ((c0.toNat : Int) != 48) = false := by simp; omega
        have hc0 : c0 = 48 := by apply UInt8.toNat_inj.1; rw [h48]; rfl
        have HP := Lib.hid (rnum_eq (B := false) HST.out hk (by rw [HH.out, hc0]; simp; omega))
        go_quiet (fail)
        go_wp2
        refine bodyPost_ret (v := .tuple #[.int .i64 m, .string (ByteArray.extract ⟨s.toArray⟩ k s.length), .bool false]) (by simp [results, Tryd.results55, go_sem]) rfl ?_
        rw [HP.out]
        exact ⟨by rw [ext_drop], below_drewN (Below.refl _ _) _⟩
      · have e1 : ((c0.toNat : Int) != 48) = true := by simp; omega
        have hc0 : c0 ≠ 48 := by intro h; rw [h] at h48; exact h48 rfl
        have HP := Lib.hid (rnum_eq (B := true) HST.out hk (by rw [HH.out]; simp [hc0, hmo]; omega))
        go_quiet (fail)
        go_wp2
        refine bodyPost_ret (v := .tuple #[.int .i64 m, .string (ByteArray.extract ⟨s.toArray⟩ k s.length), .bool true]) (by simp [results, Tryd.results55, go_sem]) rfl ?_
        rw [HP.out]
        exact ⟨by rw [ext_drop], below_drewN (Below.refl _ _) _⟩
    have hc := List.getElem?_eq_getElem hlt
    have hkb : ({ data := s.toArray } : ByteArray)[k]'(by show k < s.toArray.size; simpa using hlt) = s[k] := rfl
    generalize s[k] = c at *
    by_cases c1 : c.toNat < 48
    · have HST := Lib.hid (hgo.trans (rn_stop hc (by simp [digB]; omega)))
      have hb : ¬ (48 : Int) ≤ (c.toNat : Int) := by omega
      clear hgo hc
      go_upto_region 5 with fail
      rcases Nat.eq_zero_or_pos k with rfl | hkp
      · have d0 : decide ((0 : Int) < (0 : Int)) = false := rfl
        have HP := Lib.hid (rnum_eq (B := false) HST.out hk (by simp))
        go_quiet (fail)
        go_wp2
        refine bodyPost_ret (v := .tuple #[.int .i64 m, .string (ByteArray.extract ⟨s.toArray⟩ 0 s.length), .bool false]) (by simp [results, Tryd.results55, go_sem]) rfl ?_
        rw [HP.out]
        exact ⟨by rw [ext_drop], below_drewN (Below.refl _ _) _⟩
      have d0 : decide ((0 : Int) < (k : Int)) = true := by simpa using hkp
      have d0' : (0 : Int) < (k : Int) := by omega
      by_cases hmo : m ≤ most
      case neg =>
        have d1 : decide ((m : Int) ≤ (most : Int)) = false := by simp; omega
        have d1' : ¬ (m : Int) ≤ (most : Int) := by omega
        have HP := Lib.hid (rnum_eq (B := false) HST.out hk (by simp; omega))
        go_quiet (fail)
        go_wp2
        refine bodyPost_ret (v := .tuple #[.int .i64 m, .string (ByteArray.extract ⟨s.toArray⟩ k s.length), .bool false]) (by simp [results, Tryd.results55, go_sem]) rfl ?_
        rw [HP.out]
        exact ⟨by rw [ext_drop], below_drewN (Below.refl _ _) _⟩
      have d1 : decide ((m : Int) ≤ (most : Int)) = true := by simpa using hmo
      have d1' : (m : Int) ≤ (most : Int) := by omega
      by_cases hk1 : k = 1
      · subst hk1
        have HP := Lib.hid (rnum_eq (B := true) HST.out hk (by simp [hmo]))
        go_quiet (fail)
        go_wp2
        refine bodyPost_ret (v := .tuple #[.int .i64 m, .string (ByteArray.extract ⟨s.toArray⟩ 1 s.length), .bool true]) (by simp [results, Tryd.results55, go_sem]) rfl ?_
        rw [HP.out]
        exact ⟨by rw [ext_drop], below_drewN (Below.refl _ _) _⟩
      have d2 : ((k : Int) == 1) = false := by rw [beq_eq_false_iff_ne]; omega
      have hl0 : 0 < s.length := by omega
      have hh : s.head? = some s[0] := by rw [List.head?_eq_getElem?, List.getElem?_eq_getElem hl0]
      have hkb0 : ({ data := s.toArray } : ByteArray)[0]'(by show 0 < s.toArray.size; simpa using hl0) = s[0] := rfl
      have hl0' : (0 : Int) < (s.length : Int) := by omega
      generalize s[0] = c0 at *
      have HH := Lib.hid hh
      clear hh
      by_cases h48 : c0.toNat = 48
      · have e1 : ((c0.toNat : Int) != 48) = false := by simp; omega
        have hc0 : c0 = 48 := by apply UInt8.toNat_inj.1; rw [h48]; rfl
        have HP := Lib.hid (rnum_eq (B := false) HST.out hk (by rw [HH.out, hc0]; simp; omega))
        go_quiet (fail)
        go_wp2
        refine bodyPost_ret (v := .tuple #[.int .i64 m, .string (ByteArray.extract ⟨s.toArray⟩ k s.length), .bool false]) (by simp [results, Tryd.results55, go_sem]) rfl ?_
        rw [HP.out]
        exact ⟨by rw [ext_drop], below_drewN (Below.refl _ _) _⟩
      · have e1 : ((c0.toNat : Int) != 48) = true := by simp; omega
        have hc0 : c0 ≠ 48 := by intro h; rw [h] at h48; exact h48 rfl
        have HP := Lib.hid (rnum_eq (B := true) HST.out hk (by rw [HH.out]; simp [hc0, hmo]; omega))
        go_quiet (fail)
        go_wp2
        refine bodyPost_ret (v := .tuple #[.int .i64 m, .string (ByteArray.extract ⟨s.toArray⟩ k s.length), .bool true]) (by simp [results, Tryd.results55, go_sem]) rfl ?_
        rw [HP.out]
        exact ⟨by rw [ext_drop], below_drewN (Below.refl _ _) _⟩
    by_cases c2 : 57 < c.toNat
    · have HST := Lib.hid (hgo.trans (rn_stop hc (by simp [digB]; omega)))
      have hb : ¬ (c.toNat : Int) ≤ 57 := by omega
      have hb2 : (48 : Int) ≤ (c.toNat : Int) := by omega
      clear hgo hc
      go_upto_region 5 with fail
      rcases Nat.eq_zero_or_pos k with rfl | hkp
      · have d0 : decide ((0 : Int) < (0 : Int)) = false := rfl
        have HP := Lib.hid (rnum_eq (B := false) HST.out hk (by simp))
        go_quiet (fail)
        go_wp2
        refine bodyPost_ret (v := .tuple #[.int .i64 m, .string (ByteArray.extract ⟨s.toArray⟩ 0 s.length), .bool false]) (by simp [results, Tryd.results55, go_sem]) rfl ?_
        rw [HP.out]
        exact ⟨by rw [ext_drop], below_drewN (Below.refl _ _) _⟩
      have d0 : decide ((0 : Int) < (k : Int)) = true := by simpa using hkp
      have d0' : (0 : Int) < (k : Int) := by omega
      by_cases hmo : m ≤ most
      case neg =>
        have d1 : decide ((m : Int) ≤ (most : Int)) = false := by simp; omega
        have d1' : ¬ (m : Int) ≤ (most : Int) := by omega
        have HP := Lib.hid (rnum_eq (B := false) HST.out hk (by simp; omega))
        go_quiet (fail)
        go_wp2
        refine bodyPost_ret (v := .tuple #[.int .i64 m, .string (ByteArray.extract ⟨s.toArray⟩ k s.length), .bool false]) (by simp [results, Tryd.results55, go_sem]) rfl ?_
        rw [HP.out]
        exact ⟨by rw [ext_drop], below_drewN (Below.refl _ _) _⟩
      have d1 : decide ((m : Int) ≤ (most : Int)) = true := by simpa using hmo
      have d1' : (m : Int) ≤ (most : Int) := by omega
      by_cases hk1 : k = 1
      · subst hk1
        have HP := Lib.hid (rnum_eq (B := true) HST.out hk (by simp [hmo]))
        go_quiet (fail)
        go_wp2
        refine bodyPost_ret (v := .tuple #[.int .i64 m, .string (ByteArray.extract ⟨s.toArray⟩ 1 s.length), .bool true]) (by simp [results, Tryd.results55, go_sem]) rfl ?_
        rw [HP.out]
        exact ⟨by rw [ext_drop], below_drewN (Below.refl _ _) _⟩
      have d2 : ((k : Int) == 1) = false := by rw [beq_eq_false_iff_ne]; omega
      have hl0 : 0 < s.length := by omega
      have hh : s.head? = some s[0] := by rw [List.head?_eq_getElem?, List.getElem?_eq_getElem hl0]
      have hkb0 : ({ data := s.toArray } : ByteArray)[0]'(by show 0 < s.toArray.size; simpa using hl0) = s[0] := rfl
      have hl0' : (0 : Int) < (s.length : Int) := by omega
      generalize s[0] = c0 at *
      have HH := Lib.hid hh
      clear hh
      by_cases h48 : c0.toNat = 48
      · have e1 : ((c0.toNat : Int) != 48) = false := by simp; omega
        have hc0 : c0 = 48 := by apply UInt8.toNat_inj.1; rw [h48]; rfl
        have HP := Lib.hid (rnum_eq (B := false) HST.out hk (by rw [HH.out, hc0]; simp; omega))
        go_quiet (fail)
        go_wp2
        refine bodyPost_ret (v := .tuple #[.int .i64 m, .string (ByteArray.extract ⟨s.toArray⟩ k s.length), .bool false]) (by simp [results, Tryd.results55, go_sem]) rfl ?_
        rw [HP.out]
        exact ⟨by rw [ext_drop], below_drewN (Below.refl _ _) _⟩
      · have e1 : ((c0.toNat : Int) != 48) = true := by simp; omega
        have hc0 : c0 ≠ 48 := by intro h; rw [h] at h48; exact h48 rfl
        have HP := Lib.hid (rnum_eq (B := true) HST.out hk (by rw [HH.out]; simp [hc0, hmo]; omega))
        go_quiet (fail)
        go_wp2
        refine bodyPost_ret (v := .tuple #[.int .i64 m, .string (ByteArray.extract ⟨s.toArray⟩ k s.length), .bool true]) (by simp [results, Tryd.results55, go_sem]) rfl ?_
        rw [HP.out]
        exact ⟨by rw [ext_drop], below_drewN (Below.refl _ _) _⟩
    by_cases c3 : m ≤ most
    case neg =>
      have HST := Lib.hid (hgo.trans (rn_stop hc (by omega)))
      have hb : (c.toNat : Int) ≤ 57 := by omega
      have hb2 : (48 : Int) ≤ (c.toNat : Int) := by omega
      have hb3 : ¬ (m : Int) ≤ (most : Int) := by omega
      clear hgo hc
      go_upto_region 5 with fail
      rcases Nat.eq_zero_or_pos k with rfl | hkp
      · have d0 : decide ((0 : Int) < (0 : Int)) = false := rfl
        have HP := Lib.hid (rnum_eq (B := false) HST.out hk (by simp))
        go_quiet (fail)
        go_wp2
        refine bodyPost_ret (v := .tuple #[.int .i64 m, .string (ByteArray.extract ⟨s.toArray⟩ 0 s.length), .bool false]) (by simp [results, Tryd.results55, go_sem]) rfl ?_
        rw [HP.out]
        exact ⟨by rw [ext_drop], below_drewN (Below.refl _ _) _⟩
      have d0 : decide ((0 : Int) < (k : Int)) = true := by simpa using hkp
      have d0' : (0 : Int) < (k : Int) := by omega
      by_cases hmo : m ≤ most
      case neg =>
        have d1 : decide ((m : Int) ≤ (most : Int)) = false := by simp; omega
        have d1' : ¬ (m : Int) ≤ (most : Int) := by omega
        have HP := Lib.hid (rnum_eq (B := false) HST.out hk (by simp; omega))
        go_quiet (fail)
        go_wp2
        refine bodyPost_ret (v := .tuple #[.int .i64 m, .string (ByteArray.extract ⟨s.toArray⟩ k s.length), .bool false]) (by simp [results, Tryd.results55, go_sem]) rfl ?_
        rw [HP.out]
        exact ⟨by rw [ext_drop], below_drewN (Below.refl _ _) _⟩
      exact absurd hmo c3
    have HG := Lib.hid (hgo.trans (rn_go hc (by simp [digB]; omega) c3))
    have hb : (c.toNat : Int) ≤ 57 := by omega
    have hb2 : (48 : Int) ≤ (c.toNat : Int) := by omega
    have hb3 : (m : Int) ≤ (most : Int) := by omega
    clear hgo hc
    go_wp2
    go_roundw
    case rel => exact ⟨k + 1, 10 * m + (c.toNat - 48), by omega, by go_num, by congr 1; omega, by omega, HG.out, rfl⟩
    case measure => simp [intOf]; omega
end Go.Proofs.YtcoablindoknpaaDoor
