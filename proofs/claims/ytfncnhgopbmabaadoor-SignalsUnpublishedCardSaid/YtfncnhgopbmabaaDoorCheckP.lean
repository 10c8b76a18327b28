/-
  Check of the program, over any configuration.
-/
import Derived.Test.YtfncnhgopbmabaaDoorOwn
import Derived.Test.YtfncnhgopbmabaaDoorReadersP
namespace Go.Proofs.YtfncnhgopbmabaaDoor
open Go.RowKit

attribute [local go_sem ↓] loadRelay_fold storeRelay_fold
attribute [local go_sem] loadRelay_row storeRelay_new

def subK (rs : List RelayM) (i k : Nat) : Int := (FindP rs i k).2.2.2
def oneK (rs : List RelayM) (i : Nat) : Int := match rs[i]? with
  | Option.none => 0
  | some r => if ownE r ≠ 0 then ownE r else firstNZ (subK rs i) r.subs.length
/-- The first of the first n relays with an error, and the error. -/
def checkUpto (rs : List RelayM) : Nat → Int × Int
  | 0 => (0, 0)
  | n + 1 => if (checkUpto rs n).2 = 0 then (if oneK rs n = 0 then (0, 0) else ((n : Int), oneK rs n)) else checkUpto rs n
theorem check_ok {rs : List RelayM} : ∀ {n : Nat}, AllZero (oneK rs) n → checkUpto rs n = (0, 0)
  | 0, _ => rfl
  | n + 1, h => by
    have := check_ok (rs := rs) (n := n) fun j hj => h j (by omega)
    simp [checkUpto, this, h n (by omega)]
theorem check_found {rs : List RelayM} {k : Nat} (h : AllZero (oneK rs) k) (hk : oneK rs k ≠ 0) : ∀ {n : Nat}, k < n → checkUpto rs n = ((k : Int), oneK rs k)
  | 0, hn => absurd hn (Nat.not_lt_zero _)
  | n + 1, hn => by
    rcases Nat.lt_succ_iff_lt_or_eq.1 hn with h' | rfl
    · have := check_found h hk h'
      simp [checkUpto, this, hk]
    · simp [checkUpto, check_ok h, hk]
theorem one_own {rs : List RelayM} {k : Nat} {r : RelayM} (hr : rs[k]? = some r) (h : ownE r ≠ 0) : oneK rs k = ownE r := by simp [oneK, hr, h]
theorem one_sub {rs : List RelayM} {k j : Nat} {r : RelayM} (hr : rs[k]? = some r) (h : ownE r = 0) (hz : AllZero (subK rs k) j) (hj : j < r.subs.length) (hn : subK rs k j ≠ 0) : oneK rs k = subK rs k j := by
  simp [oneK, hr, h, firstNZ_found hz hn hj]
theorem one_ok {rs : List RelayM} {k : Nat} {r : RelayM} (hr : rs[k]? = some r) (h : ownE r = 0) (hz : AllZero (subK rs k) r.subs.length) : oneK rs k = 0 := by
  simp [oneK, hr, h, firstNZ_zero hz]

/-- Two ints are returned; old memory is as it was. -/
def RetTwo (p : Int × Int) (w : World) (e : Ending) (w' : World) : Prop := e = .returned (.tuple #[.int .i64 p.1, .int .i64 p.2]) ∧ Below w.heap.size w w'
theorem ret_two {p : Int × Int} {a b : Int} (h : p = (a, b)) : Ending.returned (.tuple #[.int .i64 a, .int .i64 b]) = .returned (.tuple #[.int .i64 p.1, .int .i64 p.2]) := by rw [h]

def ChO (B : Nat) (W2 : World) (rs : List RelayM) (i : Value) (wr : World) : Prop := ∃ k : Nat, k ≤ rs.length ∧ i = .int .i64 k ∧ AllZero (oneK rs) k ∧ Below B W2 wr
def ChI (B : Nat) (W2 : World) (rs : List RelayM) (k lim : Nat) (i : Value) (wr : World) : Prop := ∃ m : Nat, m ≤ lim ∧ i = .int .i64 m ∧ AllZero (subK rs k) m ∧ Below B W2 wr

set_option maxRecDepth 100000 in
set_option maxHeartbeats 8000000 in
theorem check_any (a0 a1 a2 a3 a4 : Value) (A : Option Addr) (c B : Nat) (rs : List RelayM) (w : World) (hB : B ≤ w.heap.size) (h : Conf w B a0 a1 a2 a3 a4 A c rs) (hn : SmallAll rs) :
    Calls Tryd.prog 23 #[.agg #[a0, a1, a2, a3, a4, .slice A rs.length c]] w (RetTwo (checkUpto rs rs.length) w) := by
  have hbox := box_below w (Obj.cells #[a0, a1, a2, a3, a4, .slice A rs.length c] 49)
  have CB0 := CB.new w a0 a1 a2 a3 a4 (.slice A rs.length c) 49
  have H := Lib.hid h
  have hr := h.rows
  clear h
  have hn20 := hn.1
  go_enter Tryd.func23, Tryd.ntmps23
  go_wp2_with fail
  refine (devices_any a0 a1 a2 a3 a4 A c B rs _ (by simp; omega) (H.out.mono (Nat.le_refl _) (hbox.mono hB)) hn20).mono ?_
  rintro e W2 ⟨mb, rfl, hmb, hmap, hb2⟩
  have CB2 := CB0.below hb2 (by simp)
  have hbw2 := hbox.trans (hb2.mono (by simp))
  have hs2 := hbw2.size
  have hmlt := hmap.block
  have hglt := CB2.lt
  have HM := Lib.hid hmap
  have q5' := CB2.c5
  clear hb2 CB0 hbox hmap
  go_wp2_with fail
  go_loopw [15] (ChO W2.heap.size W2 rs) (fun i _ => rs.length - (intOf i).toNat)
  case atStart => exact ⟨0, Nat.zero_le _, rfl, allZero_zero _, Below.refl _ _⟩
  case round =>
    obtain ⟨k, hk, rfl, hall, hbel⟩ := hrel
    have HZ := Lib.hid hall
    have hbw : Below w.heap.size w wr := hbw2.trans (hbel.mono hs2)
    have hsz := hbel.size
    clear q5' hall
    by_cases hlt : k < rs.length
    · obtain ⟨b, o, cs, x, rfl, hbB, hx, hR, hbx, hrow0, -⟩ := relayAt hr hlt
      have hrow := rowAt_below hrow0 (hbw.mono hB) hbB
      have hsm := hn.2 x (List.mem_of_getElem? hx)
      have hsub := hsm.subs
      obtain ⟨c52, h52, A2, k2, e2, l2, m2, R2⟩ := hR.subs
      cases e2
      have HX := Lib.hid hx
      have hb' : b < w.heap.size := by omega
      have hbel0 := hbel.alloc hsz (Obj.cells cs.toArray 34)
      have R2' := Lib.hid R2
      have hrowN := rowAt_new wr cs 34 wr.heap.size 53 rfl hbx
      have C := own_any cs x B (wr.alloc (Obj.cells cs.toArray 34)) (by simp; omega) (RelayC.mono _ _ _ _ _ _ (Nat.le_refl _) ((hbw2.trans (hbel0.mono hs2)).mono hB) hR) hsm
      have HC := Lib.hid C
      clear hx hR hsm R2 hrow0 C
      go_wp2_with fail
      refine HC.out.mono ?_
      rintro e w3 ⟨rfl, hb3⟩
      have hbel3 := hbel0.trans (hb3.mono (by simp; omega))
      have q52 : w3.cell? ⟨wr.heap.size, 52, Option.none⟩ = some (.slice A2 x.subs.length k2) := (hb3.cell (p := ⟨wr.heap.size, 52, Option.none⟩) (by simp)).trans (by simpa using h52)
      have hs3 := hbel3.size
      clear hb3 HC hrow hrowN h52 hbel0
      cases hz : (ownE x != 0) with
      | true =>
        have hnz : ownE x ≠ 0 := by simpa using hz
        have HNZ := Lib.hid hnz
        clear hnz
        go_wp2
        go_ret2
        exact ⟨ret_two ((check_found HZ.out (by rw [one_own HX.out HNZ.out]; exact HNZ.out) hlt).trans (by rw [one_own HX.out HNZ.out])), hbw2.trans (hbel3.mono hs2)⟩
      | false =>
        have hnz : ownE x = 0 := by simpa using hz
        have HNZ := Lib.hid hnz
        clear hz hnz
        have hz0 : (ownE x != 0) = false := by rw [HNZ.out]; rfl
        go_wp2_with fail
        go_loopw [29] (ChI W2.heap.size W2 rs k x.subs.length) (fun i _ => x.subs.length - (intOf i).toNat)
        case atStart => exact ⟨0, Nat.zero_le _, rfl, allZero_zero _, hbel3⟩
        case round =>
          obtain ⟨m, hm, rfl, hall, hbel1⟩ := hrel
          have HZ2 := Lib.hid hall
          have hsz1 := hbel1.size
          have hbw1 : Below w.heap.size w wr := hbw2.trans (hbel1.mono hs2)
          clear hall q52 hz0
          by_cases hmt : m < x.subs.length
          · obtain ⟨b2, o2, ds, sb, rfl, hbb, hsx, -, ⟨rfl, -, hdl, -, -⟩, hat2⟩ := (R2'.out.mono SubC.mono (Nat.le_refl _) (hbw1.mono hB)).at_ hmt
            have q0 : wr.cell? ⟨b2, o2 + m * 4, Option.none⟩ = some (.string sb.loc) := hat2 0 _ rfl
            have q1 : wr.cell? ⟨b2, o2 + m * 4 + 1, Option.none⟩ = some (.string sb.device) := hat2 1 _ rfl
            have q2 : wr.cell? ⟨b2, o2 + m * 4 + 2, Option.none⟩ = some (.string sb.set) := hat2 2 _ rfl
            have q3 : wr.cell? ⟨b2, o2 + m * 4 + 3, Option.none⟩ = some (.string sb.signal) := hat2 3 _ rfl
            have hF : FindP rs (k : Int) (m : Int) = findP rs (k : Int) (idx (fun r => same r.name sb.device) rs) sb := by simp [FindP, HX.out, hsx, show ¬ ((m : Int) < 0) by omega, show ¬ ((k : Int) < 0) by omega]
            have HF := Lib.hid hF
            have CB3 := CB2.below hbel1 hglt
            obtain ⟨hlt3, p0, p1, p2, p3, p4, p5⟩ := id CB3
            have hdv := (idx_lt (fun r : RelayM => same r.name sb.device) rs).2
            have hBr : B ≤ wr.heap.size := by omega
            have HMw : ∀ W', Below W2.heap.size W2 W' → MapS Tryd.prog 9 3 W' mb rs.length (devF rs rs.length) := fun W' hb => HM.out.below hb hmlt
            have HMW := Lib.hid HMw
            have HCw : ∀ W', Below W2.heap.size W2 W' → Calls Tryd.prog 34 #[.agg #[a0, a1, a2, a3, a4, .slice (some ⟨b, o, Option.none⟩) rs.length c], .int .i64 (k : Int), .int .i64 (idx (fun r => same r.name sb.device) rs), .agg #[.string sb.loc, .string sb.device, .string sb.set, .string sb.signal]] W' (RetPlace (FindP rs (k : Int) (m : Int)) W') := fun W' hb => by
              rw [HF.out]
              exact find_any a0 a1 a2 a3 a4 (some ⟨b, o, Option.none⟩) c B rs (k : Int) _ sb W' (by have := hb.size; omega) (H.out.mono (Nat.le_refl _) ((hbw2.trans (hb.mono hs2)).mono hB)) hn hdv
            have HCW := Lib.hid HCw
            have e1 := hbel1.alloc hsz1 (Obj.cells #[.string sb.loc, .string sb.device, .string sb.set, .string sb.signal] 70)
            have s1 := Lib.hid (RS.new (sb := sb) CB3)
            have hx1 : w.heap.size < (wr.alloc (Obj.cells #[.string sb.loc, .string sb.device, .string sb.set, .string sb.signal] 70)).drew.heap.size := by simp; omega
            have hx2 : wr.heap.size < (wr.alloc (Obj.cells #[.string sb.loc, .string sb.device, .string sb.set, .string sb.signal] 70)).drew.heap.size := by simp
            have hy1 : W2.heap.size ≤ (wr.alloc (Obj.cells #[.string sb.loc, .string sb.device, .string sb.set, .string sb.signal] 70)).drew.heap.size := by simp; omega
            have hl2 : w.heap.size < wr.heap.size + 1 := by omega
            clear HMw HCw hsx hat2 hF
            go_wp2_with fail
            go_region_held3 (fun w' => w'.cell? ⟨w.heap.size, 0, Option.none⟩ = some a0 ∧ w'.cell? ⟨w.heap.size, 1, Option.none⟩ = some a1 ∧ w'.cell? ⟨w.heap.size, 2, Option.none⟩ = some a2 ∧ w'.cell? ⟨w.heap.size, 3, Option.none⟩ = some a3 ∧ w'.cell? ⟨w.heap.size, 4, Option.none⟩ = some a4 ∧ w'.cell? ⟨w.heap.size, 5, Option.none⟩ = some (.slice (some ⟨b, o, Option.none⟩) rs.length c) ∧
                w'.cell? ⟨wr.heap.size, 0, Option.none⟩ = some (.string sb.loc) ∧ w'.cell? ⟨wr.heap.size, 1, Option.none⟩ = some (.string sb.device) ∧ w'.cell? ⟨wr.heap.size, 2, Option.none⟩ = some (.string sb.set) ∧ w'.cell? ⟨wr.heap.size, 3, Option.none⟩ = some (.string sb.signal)) (first | go_keep | exact s5)
              (first
                | ((go_at_call 39; refine (lookup_any mb _ rs sb.device _ (HMW.out _ e1.drew) hdl).mono ?_; rintro e w4 ⟨rfl, rfl⟩))
                | ((go_at_call 34; refine (HCW.out _ e1.drew).mono ?_; rintro e w5 ⟨rfl, hb5⟩; have s5 := RS.below (W := (wr.alloc (Obj.cells #[.string sb.loc, .string sb.device, .string sb.set, .string sb.signal] 70)).drew) s1.out hb5 hx1 hx2)))
            have hbel5 := e1.drew.trans (hb5.mono hy1)
            have hsk : subK rs k m = (FindP rs (k : Int) (m : Int)).2.2.2 := rfl
            generalize FindP rs (k : Int) (m : Int) = p at *
            have HSK := Lib.hid hsk
            clear hb5 s5 s1 p0 p1 p2 p3 p4 p5 q0 q1 q2 q3 hsk
            cases hz : (p.2.2.2 != 0) with
            | true =>
              have hnz : subK rs k m ≠ 0 := by rw [HSK.out]; simpa using hz
              have HN2 := Lib.hid hnz
              clear hnz
              go_wp2
              go_ret2
              exact ⟨ret_two ((check_found HZ.out (by rw [one_sub HX.out HNZ.out HZ2.out hmt HN2.out]; exact HN2.out) hlt).trans (by rw [one_sub HX.out HNZ.out HZ2.out hmt HN2.out, HSK.out])), hbw2.trans (hbel5.mono hs2)⟩
            | false =>
              have hnz : subK rs k m = 0 := by rw [HSK.out]; simpa using hz
              have HN2 := Lib.hid hnz
              clear hnz
              go_wp2
              go_roundw
              case rel => exact ⟨m + 1, by omega, by go_num, allZero_succ HZ2.out HN2.out, hbel5⟩
              case measure => simp [intOf]; omega
          · obtain rfl : m = x.subs.length := by omega
            go_wp2
            go_roundw
            case rel => exact ⟨k + 1, by omega, by go_num, allZero_succ HZ.out (one_ok HX.out HNZ.out HZ2.out), hbel1⟩
            case measure => simp [intOf]; omega
    · go_wp2
      go_ret2
      obtain rfl : k = rs.length := by omega
      exact ⟨ret_two (check_ok HZ.out), hbw⟩
end Go.Proofs.YtfncnhgopbmabaaDoor
