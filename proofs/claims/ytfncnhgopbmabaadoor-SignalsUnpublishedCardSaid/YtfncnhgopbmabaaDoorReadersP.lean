/-
  The program's Readers.
-/
import Derived.Test.YtfncnhgopbmabaaDoorReaders
namespace Go.Proofs.YtfncnhgopbmabaaDoor
open Go.RowKit

attribute [local go_sem ↓] loadRelay_fold storeRelay_fold
attribute [local go_sem] loadRelay_row storeRelay_new

/-- What a drawn statement 'p, e := find(..)' leaves: a box of the place. -/
def PlaceAt (B : Nat) (W2 wo : World) (p : Int × Int × Int × Int) (s13 s14 : Value) (wx : World) : Prop :=
  ∃ g : Nat, s13 = .pointer (some ⟨g, 0, Option.none⟩) ∧ s14 = .int .i64 p.2.2.2 ∧ wx.cell? ⟨g, 0, Option.none⟩ = some (.int .i64 p.1) ∧ wx.cell? ⟨g, 1, Option.none⟩ = some (.int .i64 p.2.1) ∧ Below B W2 wx ∧ Below wo.heap.size wo wx

theorem RB.drew {W : World} {g : Nat} (h : RB W g) : RB W.drew g := ⟨h.lt, h.r0, h.r1, h.r2, h.z0, h.z1, h.z2⟩
/-- The cells that the statement 'p, e := find(c, i, lookup(table, x.Device), x)' loads. -/
def RS (w' : World) (g h : Nat) (a0 a1 a2 a3 a4 v : Value) (sb : SubM) : Prop :=
  w'.cell? ⟨g, 0, Option.none⟩ = some a0 ∧ w'.cell? ⟨g, 1, Option.none⟩ = some a1 ∧ w'.cell? ⟨g, 2, Option.none⟩ = some a2 ∧ w'.cell? ⟨g, 3, Option.none⟩ = some a3 ∧ w'.cell? ⟨g, 4, Option.none⟩ = some a4 ∧ w'.cell? ⟨g, 5, Option.none⟩ = some v ∧
  w'.cell? ⟨h, 0, Option.none⟩ = some (.string sb.loc) ∧ w'.cell? ⟨h, 1, Option.none⟩ = some (.string sb.device) ∧ w'.cell? ⟨h, 2, Option.none⟩ = some (.string sb.set) ∧ w'.cell? ⟨h, 3, Option.none⟩ = some (.string sb.signal)
theorem RS.below {W W' : World} {g h B : Nat} {a0 a1 a2 a3 a4 v : Value} {sb : SubM} (hs : RS W g h a0 a1 a2 a3 a4 v sb) (hb : Below B W W') (hg : g < B) (hh : h < B) : RS W' g h a0 a1 a2 a3 a4 v sb := by
  obtain ⟨c0, c1, c2, c3, c4, c5, d0, d1, d2, d3⟩ := hs
  exact ⟨(hb.cell (p := ⟨g, 0, Option.none⟩) hg).trans c0, (hb.cell (p := ⟨g, 1, Option.none⟩) hg).trans c1, (hb.cell (p := ⟨g, 2, Option.none⟩) hg).trans c2, (hb.cell (p := ⟨g, 3, Option.none⟩) hg).trans c3, (hb.cell (p := ⟨g, 4, Option.none⟩) hg).trans c4, (hb.cell (p := ⟨g, 5, Option.none⟩) hg).trans c5,
    (hb.cell (p := ⟨h, 0, Option.none⟩) hh).trans d0, (hb.cell (p := ⟨h, 1, Option.none⟩) hh).trans d1, (hb.cell (p := ⟨h, 2, Option.none⟩) hh).trans d2, (hb.cell (p := ⟨h, 3, Option.none⟩) hh).trans d3⟩
theorem RS.set3 {W : World} {g h b : Nat} {a0 a1 a2 a3 a4 v x y z : Value} {sb : SubM} (hs : RS W g h a0 a1 a2 a3 a4 v sb) (hg : g < b) (hh : h < b) : RS (((W.setCell ⟨b, 0, Option.none⟩ x).setCell ⟨b, 1, Option.none⟩ y).setCell ⟨b, 2, Option.none⟩ z) g h a0 a1 a2 a3 a4 v sb :=
  hs.below (below_set3 (Below.refl b W) b (Nat.le_refl _) x y z) hg hh
theorem RS.new {wr : World} {g : Nat} {a0 a1 a2 a3 a4 v : Value} {sb : SubM} (h : CB wr g a0 a1 a2 a3 a4 v) : RS (wr.alloc (Obj.cells #[.string sb.loc, .string sb.device, .string sb.set, .string sb.signal] 70)) g wr.heap.size a0 a1 a2 a3 a4 v sb := by
  obtain ⟨hlt, c0, c1, c2, c3, c4, c5⟩ := h.below (box_below wr (Obj.cells #[.string sb.loc, .string sb.device, .string sb.set, .string sb.signal] 70)) h.lt
  exact ⟨c0, c1, c2, c3, c4, c5, by go_simp, by go_simp, by go_simp, by go_simp⟩

set_option maxRecDepth 100000 in
set_option maxHeartbeats 8000000 in
theorem readers_any (a0 a1 a2 a3 a4 : Value) (A : Option Addr) (c B : Nat) (rs : List RelayM) (relay set : Int) (w : World) (hB : B ≤ w.heap.size) (h : Conf w B a0 a1 a2 a3 a4 A c rs) (hn : SmallAll rs) :
    Calls Tryd.prog 21 #[.agg #[a0, a1, a2, a3, a4, .slice A rs.length c], .int .i64 relay, .int .i64 set] w (RetRow 65 2 (gone rs relay set rs.length 0).length (pairC (gone rs relay set rs.length 0)) w) := by
  obtain ⟨i0, hi, hz0, hz1, hz2⟩ := info_parts infoReader
  have hbox := box_below w (Obj.cells #[a0, a1, a2, a3, a4, .slice A rs.length c] 49)
  have CB0 := CB.new w a0 a1 a2 a3 a4 (.slice A rs.length c) 49
  have H := Lib.hid h
  have hr := h.rows
  clear h
  have hn20 := hn.1
  go_enter Tryd.func21, Tryd.ntmps21
  go_wp2_with fail
  refine (devices_any a0 a1 a2 a3 a4 A c B rs _ (by simp; omega) (H.out.mono (Nat.le_refl _) (hbox.mono hB)) hn20).mono ?_
  rintro e W2 ⟨mb, rfl, hmb, hmap, hb2⟩
  have CB2 := CB0.below hb2 (by simp)
  have hbw2 := hbox.trans (hb2.mono (by simp))
  have hs2 := hbw2.size
  have hmlt := hmap.block
  have hglt := CB2.lt
  have HM := Lib.hid hmap
  have q5' := CB2.c5
  clear hb2 CB0 hbox hmap
  go_wp2_with fail
  go_loopw [8, 20] (RdO 65 W2.heap.size W2 rs relay set) (fun _ i _ => rs.length - (intOf i).toNat)
  case atStart => exact ⟨0, Nat.zero_le _, rfl, World.ownsRow_nil _ _ _ _, Below.refl _ _⟩
  case round =>
    obtain ⟨k, hk, rfl, hown, hbel⟩ := hrel
    have hbw : Below w.heap.size w wr := hbw2.trans (hbel.mono hs2)
    have hsz := hbel.size
    clear q5'
    by_cases hlt : k < rs.length
    · obtain ⟨b, o, cs, x, rfl, hbB, hx, hR, hbx, hrow0, -⟩ := relayAt hr hlt
      have hrow := rowAt_below hrow0 (hbw.mono hB) hbB
      have hsm := hn.2 x (List.mem_of_getElem? hx)
      have hsub := hsm.subs
      obtain ⟨c52, h52, A2, k2, e2, l2, m2, R2⟩ := hR.subs
      cases e2
      have HX := Lib.hid hx
      have hb' : b < w.heap.size := by omega
      have HO0 := Lib.hid (hown.alloc (Obj.cells cs.toArray 34))
      have hbel0 := hbel.alloc hsz (Obj.cells cs.toArray 34)
      have R2' := Lib.hid R2
      clear hx hR hsm hown R2 hrow0
      go_wp2_with fail
      go_loopw [8, 28] (RdI 65 W2.heap.size W2 rs relay set k x.subs.length) (fun _ i _ => x.subs.length - (intOf i).toNat)
      case atStart => exact ⟨0, Nat.zero_le _, rfl, HO0.out, hbel0⟩
      case round =>
        clear HO0 hbel0
        obtain ⟨m, hm, rfl, hown, hbel1⟩ := hrel
        have hsz1 := hbel1.size
        have hbw1 : Below w.heap.size w wr := hbw2.trans (hbel1.mono hs2)
        by_cases hmt : m < x.subs.length
        · obtain ⟨b2, o2, ds, sb, rfl, hbb, hsx, -, ⟨rfl, -, hdl, -, -⟩, hat2⟩ := (R2'.out.mono SubC.mono (Nat.le_refl _) (hbw1.mono hB)).at_ hmt
          have q0 : wr.cell? ⟨b2, o2 + m * 4, Option.none⟩ = some (.string sb.loc) := hat2 0 _ rfl
          have q1 : wr.cell? ⟨b2, o2 + m * 4 + 1, Option.none⟩ = some (.string sb.device) := hat2 1 _ rfl
          have q2 : wr.cell? ⟨b2, o2 + m * 4 + 2, Option.none⟩ = some (.string sb.set) := hat2 2 _ rfl
          have q3 : wr.cell? ⟨b2, o2 + m * 4 + 3, Option.none⟩ = some (.string sb.signal) := hat2 3 _ rfl
          have HO := Lib.hid hown
          have hF : FindP rs (k : Int) (m : Int) = findP rs (k : Int) (idx (fun r => same r.name sb.device) rs) sb := by simp [FindP, HX.out, hsx, show ¬ ((m : Int) < 0) by omega, show ¬ ((k : Int) < 0) by omega]
          have HF := Lib.hid hF
          have CB3 := CB2.below hbel1 hglt
          obtain ⟨hlt3, p0, p1, p2, p3, p4, p5⟩ := id CB3
          have hdv := (idx_lt (fun r : RelayM => same r.name sb.device) rs).2
          have hBr : B ≤ wr.heap.size := by omega
          clear hown hsx hat2 hF
          go_upto_region 9 with fail
          go_cut [13, 14] (PlaceAt W2.heap.size W2 wr (FindP rs (k : Int) (m : Int)))
          case first =>
            have HMw : ∀ W', Below W2.heap.size W2 W' → MapS Tryd.prog 9 3 W' mb rs.length (devF rs rs.length) := fun W' hb => HM.out.below hb hmlt
            have HMW := Lib.hid HMw
            have HCw : ∀ W', Below W2.heap.size W2 W' → Calls Tryd.prog 34 #[.agg #[a0, a1, a2, a3, a4, .slice (some ⟨b, o, Option.none⟩) rs.length c], .int .i64 (k : Int), .int .i64 (idx (fun r => same r.name sb.device) rs), .agg #[.string sb.loc, .string sb.device, .string sb.set, .string sb.signal]] W' (RetPlace (FindP rs (k : Int) (m : Int)) W') := fun W' hb => by
              rw [HF.out]
              exact find_any a0 a1 a2 a3 a4 (some ⟨b, o, Option.none⟩) c B rs (k : Int) _ sb W' (by have := hb.size; omega) (H.out.mono (Nat.le_refl _) ((hbw2.trans (hb.mono hs2)).mono hB)) hn hdv
            have HCW := Lib.hid HCw
            have e1 := hbel1.alloc hsz1 (Obj.cells #[.string sb.loc, .string sb.device, .string sb.set, .string sb.signal] 70)
            have e2 := e1.alloc (by simp; omega) (Obj.cells #[.int .i64 0, .int .i64 0, .int .i64 0] 52)
            have hl2 : w.heap.size < wr.heap.size + 1 := by omega
            have ne1 : ¬ w.heap.size = wr.heap.size + 1 := by omega
            have ne2 : ¬ wr.heap.size + 1 = w.heap.size := by omega
            have hl3 : wr.heap.size < wr.heap.size + 1 := Nat.lt_succ_self _
            have hl4 : w.heap.size < wr.heap.size + 1 + 1 := by omega
            have s1 := Lib.hid (RS.new (sb := sb) CB3)
            have s2 := Lib.hid (s1.out.below (box_below _ (Obj.cells #[.int .i64 0, .int .i64 0, .int .i64 0] 52)) (by simp; omega) (by simp))
            have hx1 : w.heap.size < (wr.alloc (Obj.cells #[.string sb.loc, .string sb.device, .string sb.set, .string sb.signal] 70)).drew.heap.size := by simp; omega
            have hx2 : wr.heap.size < (wr.alloc (Obj.cells #[.string sb.loc, .string sb.device, .string sb.set, .string sb.signal] 70)).drew.heap.size := by simp
            have hx3 : w.heap.size < ((wr.alloc (Obj.cells #[.string sb.loc, .string sb.device, .string sb.set, .string sb.signal] 70)).alloc (Obj.cells #[.int .i64 0, .int .i64 0, .int .i64 0] 52)).drew.heap.size := by simp; omega
            have hx4 : wr.heap.size < ((wr.alloc (Obj.cells #[.string sb.loc, .string sb.device, .string sb.set, .string sb.signal] 70)).alloc (Obj.cells #[.int .i64 0, .int .i64 0, .int .i64 0] 52)).drew.heap.size := by simp; omega
            have rb2 := Lib.hid (RB.drew (⟨by simp, by go_simp, by go_simp, by go_simp, by go_simp, by go_simp, by go_simp⟩ : RB ((wr.alloc (Obj.cells #[.string sb.loc, .string sb.device, .string sb.set, .string sb.signal] 70)).alloc (Obj.cells #[.int .i64 0, .int .i64 0, .int .i64 0] 52)) (wr.heap.size + 1)))
            have hx5 : wr.heap.size + 1 < ((wr.alloc (Obj.cells #[.string sb.loc, .string sb.device, .string sb.set, .string sb.signal] 70)).alloc (Obj.cells #[.int .i64 0, .int .i64 0, .int .i64 0] 52)).drew.heap.size := by simp
            have f1 := box_below wr (Obj.cells #[.string sb.loc, .string sb.device, .string sb.set, .string sb.signal] 70)
            have f2 := f1.alloc (by simp) (Obj.cells #[.int .i64 0, .int .i64 0, .int .i64 0] 52)
            have hy1 : W2.heap.size ≤ (wr.alloc (Obj.cells #[.string sb.loc, .string sb.device, .string sb.set, .string sb.signal] 70)).drew.heap.size := by simp; omega
            have hy2 : W2.heap.size ≤ ((wr.alloc (Obj.cells #[.string sb.loc, .string sb.device, .string sb.set, .string sb.signal] 70)).alloc (Obj.cells #[.int .i64 0, .int .i64 0, .int .i64 0] 52)).drew.heap.size := by simp; omega
            have hy3 : wr.heap.size ≤ (wr.alloc (Obj.cells #[.string sb.loc, .string sb.device, .string sb.set, .string sb.signal] 70)).drew.heap.size := by simp
            have hy4 : wr.heap.size ≤ ((wr.alloc (Obj.cells #[.string sb.loc, .string sb.device, .string sb.set, .string sb.signal] 70)).alloc (Obj.cells #[.int .i64 0, .int .i64 0, .int .i64 0] 52)).drew.heap.size := by simp; omega
            clear HMw HCw hr q0 q1 q2 q3 H HO HX
            go_region_held3 (fun w' => w'.cell? ⟨w.heap.size, 0, Option.none⟩ = some a0 ∧ w'.cell? ⟨w.heap.size, 1, Option.none⟩ = some a1 ∧ w'.cell? ⟨w.heap.size, 2, Option.none⟩ = some a2 ∧ w'.cell? ⟨w.heap.size, 3, Option.none⟩ = some a3 ∧ w'.cell? ⟨w.heap.size, 4, Option.none⟩ = some a4 ∧ w'.cell? ⟨w.heap.size, 5, Option.none⟩ = some (.slice (some ⟨b, o, Option.none⟩) rs.length c) ∧
                w'.cell? ⟨wr.heap.size, 0, Option.none⟩ = some (.string sb.loc) ∧ w'.cell? ⟨wr.heap.size, 1, Option.none⟩ = some (.string sb.device) ∧ w'.cell? ⟨wr.heap.size, 2, Option.none⟩ = some (.string sb.set) ∧ w'.cell? ⟨wr.heap.size, 3, Option.none⟩ = some (.string sb.signal)) (first | go_keep | exact s5 | exact s5.below (box_below _ _) g5 h5 | exact RS.set3 s5 hl2 hl3)
              (first
                | ((go_at_call 39; refine (lookup_any mb _ rs sb.device _ (HMW.out _ (by first | exact e1.drew | exact e2.drew)) hdl).mono ?_; rintro e w4 ⟨rfl, rfl⟩))
                | ((go_at_call 34; (with_reducible refine (HCW.out _ e2.drew).mono ?_); rintro e w5 ⟨rfl, hb5⟩; have s5 := RS.below (W := ((wr.alloc (Obj.cells #[.string sb.loc, .string sb.device, .string sb.set, .string sb.signal] 70)).alloc (Obj.cells #[.int .i64 0, .int .i64 0, .int .i64 0] 52)).drew) s2.out hb5 hx3 hx4; have g5 := Nat.lt_of_lt_of_le hx3 hb5.size; have h5 := Nat.lt_of_lt_of_le hx4 hb5.size; obtain ⟨-, r0, r1, r2, z0, z1, z2⟩ := RB.below (W := ((wr.alloc (Obj.cells #[.string sb.loc, .string sb.device, .string sb.set, .string sb.signal] 70)).alloc (Obj.cells #[.int .i64 0, .int .i64 0, .int .i64 0] 52)).drew) rb2.out hb5 hx5))
                | ((go_at_call 34; (with_reducible refine (HCW.out _ e1.drew).mono ?_); rintro e w5 ⟨rfl, hb5⟩; have s5 := RS.below (W := (wr.alloc (Obj.cells #[.string sb.loc, .string sb.device, .string sb.set, .string sb.signal] 70)).drew) s1.out hb5 hx1 hx2; have g5 := Nat.lt_of_lt_of_le hx1 hb5.size; have h5 := Nat.lt_of_lt_of_le hx2 hb5.size)))
            · go_wp2_with fail
              go_meet
              exact ⟨w5.heap.size, rfl, rfl, by go_simp, by go_simp, (e1.drew.trans (hb5.mono hy1)).alloc (Nat.le_trans hy1 hb5.size) _, (f1.drew.trans (hb5.mono hy3)).alloc (Nat.le_trans hy3 hb5.size) _⟩
            · go_wp2_with fail
              go_meet
              exact ⟨wr.heap.size + 1, rfl, rfl, by go_simp, by go_simp, below_set3 (e2.drew.trans (hb5.mono hy2)) _ (Nat.le_succ_of_le hsz1) _ _ _, below_set3 (f2.drew.trans (hb5.mono hy4)) _ (Nat.le_succ _) _ _ _⟩
            · go_wp2_with fail
              go_meet
              exact ⟨wr.heap.size + 1, rfl, rfl, by go_simp, by go_simp, below_set3 (e2.drew.trans (hb5.mono hy2)) _ (Nat.le_succ_of_le hsz1) _ _ _, below_set3 (f2.drew.trans (hb5.mono hy4)) _ (Nat.le_succ _) _ _ _⟩
          case rest =>
            obtain ⟨g, rfl, rfl, t0, t1, hw3, hwx⟩ := hcut
            have hh := hit_eq rs relay set k m
            have hgl := gone_len (relay := relay) (set := set) hn k m (by omega) (by omega)
            have HO2 := Lib.hid (own_below HO.out hwx (Nat.le_refl _))
            generalize FindP rs (k : Int) (m : Int) = p at *
            have hs3 := hw3.size
            clear HO q0 q1 q2 q3 p0 p1 p2 p3 p4 p5 CB3
            cases b1 : (p.2.2.2 == 0) with
            | false =>
              have hno : hit rs relay set k m = false := by rw [hh]; simp [b1]
              have HN := Lib.hid hno
              clear hno hh
              go_wp2
              go_roundw
              case rel => exact ⟨m + 1, by omega, by go_num, by rw [gone_no HN.out]; exact HO2.out, hw3⟩
              case measure => simp [intOf]; omega
            | true =>
              cases b2 : (p.1 == relay) with
              | false =>
                have hno : hit rs relay set k m = false := by rw [hh]; simp [b2]
                have HN := Lib.hid hno
                clear hno hh
                go_wp2
                go_roundw
                case rel => exact ⟨m + 1, by omega, by go_num, by rw [gone_no HN.out]; exact HO2.out, hw3⟩
                case measure => simp [intOf]; omega
              | true =>
                cases b3 : (p.2.1 == set) with
                | false =>
                  have hno : hit rs relay set k m = false := by rw [hh]; simp [b3]
                  have HN := Lib.hid hno
                  clear hno hh
                  go_wp2
                  go_roundw
                  case rel => exact ⟨m + 1, by omega, by go_num, by rw [gone_no HN.out]; exact HO2.out, hw3⟩
                  case measure => simp [intOf]; omega
                | true =>
                  have hyes : hit rs relay set k m = true := by rw [hh]; simp [b1, b2, b3]
                  have HN := Lib.hid hyes
                  clear hyes hh
                  go_wp2_with (first
                    | (at_builtin; refine wpList_push _ _ 60 rfl rfl Tryd.underlying60 hi hz0 hz1 hz2 rfl (by decide) rfl HO2.out hw3 _ rfl rfl rfl (by simp [Value.oneCell']) (by omega) (by unfold maxLen; omega) hs3 ?_; intro v' w' hown' hbel' _))
                  go_roundw
                  case rel => exact ⟨m + 1, by omega, by go_num, by rw [gone_yes HN.out, pairC_snoc, List.length_append]; exact hown', hbel'⟩
                  case measure => simp [intOf]; omega
        · obtain rfl : m = x.subs.length := by omega
          have HO := Lib.hid hown
          clear hown
          go_wp2
          go_roundw
          case rel => exact ⟨k + 1, by omega, by go_num, by rw [← gone_end HX.out]; exact HO.out, hbel1⟩
          case measure => simp [intOf]; omega
    · go_wp2
      go_ret
      obtain rfl : k = rs.length := by omega
      exact RetRow.mk hown hs2 hbw
end Go.Proofs.YtfncnhgopbmabaaDoor
