/-
  The law SignalsChecks: Check returns the specified relay and error for any configuration.
-/
import Derived.Test.YtfncnhgopbmabaaDoorCheckR
namespace Go.Proofs.YtfncnhgopbmabaaDoor
open Go.RowKit

set_option maxRecDepth 100000 in
set_option maxHeartbeats 4000000 in
theorem rCheck_any (a0 a1 a2 a3 a4 : Value) (A : Option Addr) (c B : Nat) (rs : List RelayM) (w : World) (hB : B ≤ w.heap.size) (h : Conf w B a0 a1 a2 a3 a4 A c rs) (hn : SmallAll rs) :
    Calls Tryd.prog 24 #[.agg #[a0, a1, a2, a3, a4, .slice A rs.length c]] w (RetTwo (checkUpto rs rs.length) w) := by
  have hbox := box_below w (Obj.cells #[a0, a1, a2, a3, a4, .slice A rs.length c] 49)
  have CB0 := CB.new w a0 a1 a2 a3 a4 (.slice A rs.length c) 49
  have H := Lib.hid h
  clear h
  have hn20 := hn.1
  go_enter Tryd.func24, Tryd.ntmps24
  go_wp2_with fail
  generalize w.alloc (Obj.cells #[a0, a1, a2, a3, a4, .slice A rs.length c] 49) = W2 at *
  have hs2 := hbox.size
  have hglt := CB0.lt
  go_loopw [4] (ChO W2.heap.size W2 rs) (fun i _ => rs.length - (intOf i).toNat)
  case atStart => exact ⟨0, Nat.zero_le _, rfl, allZero_zero _, Below.refl _ _⟩
  case round =>
    obtain ⟨k, hk, rfl, hall, hbel⟩ := hrel
    have HZ := Lib.hid hall
    have hbw : Below w.heap.size w wr := hbox.trans (hbel.mono hs2)
    have hsz := hbel.size
    obtain ⟨-, q0, q1, q2, q3, q4, q5⟩ := CB0.below hbel hglt
    clear hall
    by_cases hlt : k < rs.length
    · have C := one_any a0 a1 a2 a3 a4 A c B rs k hlt wr (by omega) (H.out.mono (Nat.le_refl _) (hbw.mono hB)) hn
      have HC := Lib.hid C
      clear C
      go_wp2_with fail
      refine HC.out.mono ?_
      rintro e w3 ⟨rfl, hb3⟩
      have hbel3 := hbel.trans (hb3.mono hsz)
      clear hb3 HC q0 q1 q2 q3 q4 q5
      generalize hp : oneK rs k = p at *
      have HP := Lib.hid hp
      clear hp
      cases hz : (p != 0) with
      | true =>
        have hnz : p ≠ 0 := by simpa using hz
        have HNZ := Lib.hid hnz
        clear hnz
        go_wp2
        go_ret2
        exact ⟨ret_two ((check_found HZ.out (by rw [HP.out]; exact HNZ.out) hlt).trans (by rw [HP.out])), hbox.trans (hbel3.mono hs2)⟩
      | false =>
        have hnz : p = 0 := by simpa using hz
        have HNZ := Lib.hid hnz
        clear hnz
        go_wp2
        go_roundw
        case rel => exact ⟨k + 1, by omega, by go_num, allZero_succ HZ.out (by rw [HP.out, HNZ.out]), hbel3⟩
        case measure => simp [intOf]; omega
    · go_wp2
      go_ret2
      obtain rfl : k = rs.length := by omega
      exact ⟨ret_two (check_ok HZ.out), hbw⟩

set_option maxRecDepth 100000 in
set_option maxHeartbeats 4000000 in
theorem checks_any (a0 a1 a2 a3 a4 : Value) (A : Option Addr) (c B : Nat) (rs : List RelayM) (w : World) (hB : B ≤ w.heap.size) (h : Conf w B a0 a1 a2 a3 a4 A c rs) :
    Calls Tryd.prog 6 #[.agg #[a0, a1, a2, a3, a4, .slice A rs.length c]] w (RetBool true w) := by
  have hbox := box_below w (Obj.cells #[a0, a1, a2, a3, a4, .slice A rs.length c] 49)
  have CB0 := CB.new w a0 a1 a2 a3 a4 (.slice A rs.length c) 49
  have H := Lib.hid h
  clear h
  go_enter Tryd.func6, Tryd.ntmps6
  go_wp2_with fail
  refine (known_any _).mono ?_
  rintro e w1 ⟨rfl, hb1⟩
  have CB1 := CB0.below hb1 CB0.lt
  have hw1 := hbox.trans (hb1.mono (by simp))
  have hs1 := hw1.size
  clear hb1 CB0 hbox
  obtain ⟨-, q0, q1, q2, q3, q4, q5⟩ := id CB1
  go_wp2_with fail
  refine (clarge_any a0 a1 a2 a3 a4 A c B rs w1 (by omega) (H.out.mono (Nat.le_refl _) (hw1.mono hB))).mono ?_
  rintro e w2 ⟨b, hsm, rfl, hb2⟩
  have hw2 := hw1.trans (hb2.mono hs1)
  have CB2 := CB1.below hb2 CB1.lt
  have hs2 := hw2.size
  clear hb2 CB1 q0 q1 q2 q3 q4 q5
  cases b
  case true =>
    go_wp2
    go_ret
    exact ⟨rfl, hw2⟩
  have hS : SmallAll rs := hsm rfl
  have HS := Lib.hid hS
  clear hsm hS
  obtain ⟨-, q0, q1, q2, q3, q4, q5⟩ := id CB2
  go_wp2_with fail
  refine (check_any a0 a1 a2 a3 a4 A c B rs w2 (by omega) (H.out.mono (Nat.le_refl _) (hw2.mono hB)) HS.out).mono ?_
  rintro e w3 ⟨rfl, hb3⟩
  have hw3 := hw2.trans (hb3.mono hs2)
  have CB3 := CB2.below hb3 CB2.lt
  have hs3 := hw3.size
  clear hb3 CB2 q0 q1 q2 q3 q4 q5
  generalize hp : checkUpto rs rs.length = p at *
  have HP := Lib.hid hp
  clear hp
  obtain ⟨-, q0, q1, q2, q3, q4, q5⟩ := id CB3
  go_wp2_with fail
  refine (rCheck_any a0 a1 a2 a3 a4 A c B rs w3 (by omega) (H.out.mono (Nat.le_refl _) (hw3.mono hB)) HS.out).mono ?_
  rintro e w4 ⟨he, hb4⟩
  rw [HP.out] at he
  subst he
  have hw4 := hw3.trans (hb4.mono hs3)
  clear q0 q1 q2 q3 q4 q5 hb4
  go_wp2
  go_ret
  exact ⟨rfl, hw4⟩
end Go.Proofs.YtfncnhgopbmabaaDoor
