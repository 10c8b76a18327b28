/-
  The reference's Readers.
-/
import Derived.Test.YtfncnhgopbmabaaDoorReaders
namespace Go.Proofs.YtfncnhgopbmabaaDoor
open Go.RowKit

attribute [local go_sem ↓] loadRelay_fold storeRelay_fold
attribute [local go_sem] loadRelay_row storeRelay_new

set_option maxRecDepth 100000 in
set_option maxHeartbeats 8000000 in
theorem rReaders_any (a0 a1 a2 a3 a4 : Value) (A : Option Addr) (c B : Nat) (rs : List RelayM) (relay set : Int) (w : World) (hB : B ≤ w.heap.size) (h : Conf w B a0 a1 a2 a3 a4 A c rs) (hn : SmallAll rs) :
    Calls Tryd.prog 22 #[.agg #[a0, a1, a2, a3, a4, .slice A rs.length c], .int .i64 relay, .int .i64 set] w (RetRow 66 2 (gone rs relay set rs.length 0).length (pairC (gone rs relay set rs.length 0)) w) := by
  obtain ⟨i0, hi, hz0, hz1, hz2⟩ := info_parts infoReaderR
  have hbox := box_below w (Obj.cells #[a0, a1, a2, a3, a4, .slice A rs.length c] 49)
  have CB0 := CB.new w a0 a1 a2 a3 a4 (.slice A rs.length c) 49
  have H := Lib.hid h
  have hr := h.rows
  clear h
  have hn20 := hn.1
  generalize hW : w.alloc (Obj.cells #[a0, a1, a2, a3, a4, .slice A rs.length c] 49) = W1 at *
  have hsz1 : W1.heap.size = w.heap.size + 1 := by rw [← hW]; simp
  have HZ := Lib.hid hsz1
  have hsz1' : w.heap.size + 1 ≤ W1.heap.size := by omega
  have HW := Lib.hid hW
  clear hW hsz1
  go_enter Tryd.func22, Tryd.ntmps22
  go_wp2_with fail
  rw [HW.out]
  go_loopw [7, 8] (RdO 66 (w.heap.size + 1) W1 rs relay set) (fun _ i _ => rs.length - (intOf i).toNat)
  case atStart => exact ⟨0, Nat.zero_le _, rfl, World.ownsRow_nil _ _ _ _, Below.refl _ _⟩
  case round =>
    obtain ⟨k, hk, rfl, hown, hbel⟩ := hrel
    have hbw : Below w.heap.size w wr := hbox.trans (hbel.mono (Nat.le_succ _))
    have CB1 := CB0.below hbel (Nat.lt_succ_self _)
    have q5 := CB1.c5
    by_cases hlt : k < rs.length
    · obtain ⟨b, o, cs, x, rfl, hbB, hx, hR, -, -, hat⟩ := relayAt hr hlt
      have hsm := hn.2 x (List.mem_of_getElem? hx)
      have hsub := hsm.subs
      obtain ⟨c52, h52, A2, k2, e2, l2, m2, R2⟩ := hR.subs
      cases e2
      have q52 : w.cell? ⟨b, o + k * 53 + 52, Option.none⟩ = some (.slice A2 x.subs.length k2) := hat 52 _ h52
      have HX := Lib.hid hx
      have hb' : b < w.heap.size := by omega
      clear hx hR hat hsm R2 h52
      go_wp2_with fail
      obtain ⟨wo, rfl⟩ : ∃ wo : World, wo = wr := ⟨_, rfl⟩
      go_loopw [7, 9] (RdI 66 (w.heap.size + 1) W1 rs relay set k x.subs.length) (fun _ i _ => x.subs.length - (intOf i).toNat)
      case atStart => exact ⟨0, Nat.zero_le _, rfl, hown, hbel⟩
      case round =>
        clear hown hbel hbw CB1 q5
        obtain ⟨m, hm, rfl, hown, hbel⟩ := hrel
        have hbw : Below w.heap.size w wr := hbox.trans (hbel.mono (Nat.le_succ _))
        have CB1 := CB0.below hbel (Nat.lt_succ_self _)
        obtain ⟨hlt1, q0, q1, q2, q3, q4, q5⟩ := id CB1
        have q52' : wr.cell? ⟨b, o + k * 53 + 52, Option.none⟩ = some (.slice A2 x.subs.length k2) := (hbw.cell (p := ⟨b, o + k * 53 + 52, Option.none⟩) hb').trans q52
        have hsz := hbel.size
        by_cases hmt : m < x.subs.length
        · have HO := Lib.hid hown
          have C := rFind_any a0 a1 a2 a3 a4 (some ⟨b, o, Option.none⟩) c B rs (k : Int) (m : Int) wr (by omega) (H.out.mono (Nat.le_refl _) (hbw.mono hB)) hn
          have HC := Lib.hid C
          have hgl := gone_len (relay := relay) (set := set) hn k m (by omega) (by omega)
          clear hown C
          go_wp2_with fail
          refine HC.out.mono ?_
          rintro e w2 ⟨rfl, hb2⟩
          have hh := hit_eq rs relay set k m
          generalize FindP rs (k : Int) (m : Int) = p at *
          have hw2 : Below (w.heap.size + 1) W1 w2 := hbel.trans (hb2.mono (by omega))
          have hown2 := own_below HO.out hb2 (Nat.le_refl _)
          have hs2 := hb2.size
          have HO2 := Lib.hid (hown2.alloc (Obj.cells #[.int .i64 p.1, .int .i64 p.2.1, .int .i64 p.2.2.1] 56))
          have hw3 := hw2.alloc (by omega) (Obj.cells #[.int .i64 p.1, .int .i64 p.2.1, .int .i64 p.2.2.1] 56)
          clear HC hb2 HO hown2 q0 q1 q2 q3 q4 q5 q52' hw2 CB1
          cases b1 : (p.2.2.2 == 0) with
          | false =>
            have hno : hit rs relay set k m = false := by rw [hh]; simp [b1]
            have HN := Lib.hid hno
            clear hno hh
            go_wp2
            go_roundw
            case rel => exact ⟨m + 1, by omega, by go_num, by rw [gone_no HN.out]; exact HO2.out, hw3⟩
            case measure => simp [intOf]; omega
          | true =>
            cases b2 : (p.1 == relay) with
            | false =>
              have hno : hit rs relay set k m = false := by rw [hh]; simp [b2]
              have HN := Lib.hid hno
              clear hno hh
              go_wp2
              go_roundw
              case rel => exact ⟨m + 1, by omega, by go_num, by rw [gone_no HN.out]; exact HO2.out, hw3⟩
              case measure => simp [intOf]; omega
            | true =>
              cases b3 : (p.2.1 == set) with
              | false =>
                have hno : hit rs relay set k m = false := by rw [hh]; simp [b3]
                have HN := Lib.hid hno
                clear hno hh
                go_wp2
                go_roundw
                case rel => exact ⟨m + 1, by omega, by go_num, by rw [gone_no HN.out]; exact HO2.out, hw3⟩
                case measure => simp [intOf]; omega
              | true =>
                have hyes : hit rs relay set k m = true := by rw [hh]; simp [b1, b2, b3]
                have HN := Lib.hid hyes
                clear hyes hh
                go_wp2_with (first
                  | (at_builtin; refine wpList_push _ _ 62 rfl rfl Tryd.underlying62 hi hz0 hz1 hz2 rfl (by decide) rfl HO2.out hw3 (w2.heap.size + 1) (by simp) rfl rfl (by simp [Value.oneCell']) (by omega) (by unfold maxLen; omega) (by simp; omega) ?_; intro v' w' hown' hbel' _))
                go_roundw
                case rel => exact ⟨m + 1, by omega, by go_num, by rw [gone_yes HN.out, pairC_snoc, List.length_append]; exact hown', hbel'⟩
                case measure => simp [intOf]; omega
        · obtain rfl : m = x.subs.length := by omega
          have HO := Lib.hid hown
          clear hown
          go_wp2
          go_roundw
          case rel => exact ⟨k + 1, by omega, by go_num, by rw [← gone_end HX.out]; exact HO.out, hbel⟩
          case measure => simp [intOf]; omega
    · go_wp2
      go_ret
      obtain rfl : k = rs.length := by omega
      exact RetRow.mk hown (Nat.le_succ _) hbw
end Go.Proofs.YtfncnhgopbmabaaDoor
