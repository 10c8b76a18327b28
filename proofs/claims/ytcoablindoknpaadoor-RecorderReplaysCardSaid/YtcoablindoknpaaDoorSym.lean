/-
  symMergeCmpFunc: two sorted runs of a row are merged in place.
-/
import Derived.Test.YtcoablindoknpaaDoorSymP
namespace Go.Proofs.YtcoablindoknpaaDoor
open Go.RowKit

def F1R (w : World) (B b : Nat) (es : List Ev) (a m c : Nat) (x y : Value) (wr : World) : Prop := ∃ i j : Nat, x = .int .i64 i ∧ y = .int .i64 j ∧ Find1 es a m c i j ∧ SSt w B b es wr
def S1R (w : World) (B b : Nat) (es : List Ev) (a c i : Nat) (x : Value) (wr : World) : Prop := ∃ (k : Nat) (cur : List Ev), a ≤ k ∧ k ≤ i - 1 ∧ x = .int .i64 k ∧ Ins1 es a c k cur ∧ SSt w B b cur wr
def F2R (w : World) (B b : Nat) (es : List Ev) (a m : Nat) (x y : Value) (wr : World) : Prop := ∃ i j : Nat, x = .int .i64 i ∧ y = .int .i64 j ∧ Find2 es a m i j ∧ SSt w B b es wr
def S2R (w : World) (B b : Nat) (es : List Ev) (a m i : Nat) (x : Value) (wr : World) : Prop := ∃ (k : Nat) (cur : List Ev), i ≤ k ∧ k ≤ m ∧ x = .int .i64 k ∧ Ins2 es a m k cur ∧ SSt w B b cur wr
def F3R (w : World) (B b : Nat) (es : List Ev) (n s0 r0 : Nat) (x y : Value) (wr : World) : Prop := ∃ i j : Nat, x = .int .i64 i ∧ y = .int .i64 j ∧ Find3 es n s0 r0 i j ∧ SSt w B b es wr
/-- Behind the search: start and end, the middle. -/
def Cut3 (w : World) (B b : Nat) (es : List Ev) (n s0 r0 : Nat) (x y : Value) (W : World) : Prop := ∃ i : Nat, x = .int .i64 i ∧ y = .int .i64 i ∧ Find3 es n s0 r0 i i ∧ SSt w B b es W

set_option maxRecDepth 100000 in
set_option maxHeartbeats 8000000 in
theorem sym1_any (w : World) (B b cp : Nat) (es : List Ev) (a m c : Nat) (W : World) (hes : es.length ≤ 100000) (h1 : a < m) (h2 : m < c) (h3 : c ≤ es.length) (hs2 : SortedR es m c) (hS : SSt w B b es W) (c1 : m - a = 1) :
    Calls Tryd.prog 63 #[.slice (some ⟨b, 0, Option.none⟩) es.length cp, .int .i64 a, .int .i64 m, .int .i64 c, cmpV] W (RetSort w B b es a c) := by
  have HS2 := Lib.hid hs2
  clear hs2
  unfold cmpV
  have e1 : (((m : Int) - (a : Int)) == 1) = true := by simp; omega
  have HMA := Lib.hid (show m = a + 1 by omega)
  clear c1
  go_enter Tryd.func63, Tryd.ntmps63
  go_wp2
  go_loopw [10, 11] (F1R w B b es a m c) (fun x y _ => (intOf y).toNat - (intOf x).toNat)
  case atStart => exact ⟨m, c, rfl, rfl, ⟨Nat.le_refl _, Nat.le_refl _, by omega, (fun p h1 h2 => by omega), fun p h1 h2 => by omega⟩, hS⟩
  case round =>
    obtain ⟨i, j, rfl, rfl, hF, hSt⟩ := hrel
    clear hS
    have g1 := hF.lo
    have g2 := hF.hi
    have g3 := hF.le
    have HF := Lib.hid hF
    clear hF
    by_cases hij : i < j
    · have d1 : (i : Int) < (j : Int) := by omega
      go_upto_region 5 with fail
      obtain ⟨h, hh, hh1, hh2⟩ : ∃ h : Nat, ((i : Int) + (j : Int)) / 2 = (h : Int) ∧ i ≤ h ∧ h < j := ⟨(i + j) / 2, by omega, by omega, by omega⟩
      rw [hh]
      clear hh
      have k0 : (h : Int) < (es.length : Int) := by omega
      have k1 : (a : Int) < (es.length : Int) := by omega
      obtain ⟨x, hx, EX⟩ := hSt.row.at_ (show h < es.length by omega)
      obtain ⟨y, hy, EY⟩ := hSt.row.at_ (show a < es.length by omega)
      have CB := fun W => order_any x y W
      unfold Ev.cells at CB
      have hd1 : ordE x y < 0 → beforeB (at_ es (h)) (at_ es (a)) = true := fun h => by rw [at_eq hx, at_eq hy]; exact decide_eq_true h
      have hd2 : ¬ ordE x y < 0 → beforeB (at_ es (h)) (at_ es (a)) = false := fun h => by rw [at_eq hx, at_eq hy]; exact decide_eq_false h
      generalize ordE x y = oo at *
      have HCB := Lib.hid CB
      have HD1 := Lib.hid hd1
      have HD2 := Lib.hid hd2
      obtain ⟨q0, q1, q2, q3, q4⟩ := id EX
      obtain ⟨r0, r1, r2, r3, r4⟩ := id EY
      have hlW := hSt.row.lt
      clear hx hy CB hd1 hd2
      go_region_held3 (fun w' => (w'.cell? ⟨b, h * 5, Option.none⟩ = some (.int .i64 x.time) ∧ w'.cell? ⟨b, h * 5 + 1, Option.none⟩ = some (.int .i64 x.device) ∧ w'.cell? ⟨b, h * 5 + 2, Option.none⟩ = some (.int .i64 x.signal) ∧ w'.cell? ⟨b, h * 5 + 3, Option.none⟩ = some (.bool x.value) ∧ w'.cell? ⟨b, h * 5 + 4, Option.none⟩ = some (.int .i64 x.quality)) ∧
          w'.cell? ⟨b, a * 5, Option.none⟩ = some (.int .i64 y.time) ∧ w'.cell? ⟨b, a * 5 + 1, Option.none⟩ = some (.int .i64 y.device) ∧ w'.cell? ⟨b, a * 5 + 2, Option.none⟩ = some (.int .i64 y.signal) ∧ w'.cell? ⟨b, a * 5 + 3, Option.none⟩ = some (.bool y.value) ∧ w'.cell? ⟨b, a * 5 + 4, Option.none⟩ = some (.int .i64 y.quality)) (go_keep)
        (first
          | ((go_at_call 37; refine (HCB.out _).mono ?_; rintro e' w6 ⟨rfl, hb6'⟩; have hb6 := below_same (a := wr) (B' := wr.heap.size) hb6' rfl rfl rfl rfl (Nat.le_refl _); obtain ⟨t0, t1, t2, t3, t4⟩ := EX.below hb6 hlW; obtain ⟨v0, v1, v2, v3, v4⟩ := EY.below hb6 hlW)))
      have hS6 := hSt.below hb6
      clear t0 t1 t2 t3 t4 v0 v1 v2 v3 v4 q0 q1 q2 q3 q4 r0 r1 r2 r3 r4 EX EY hSt hb6' hb6 HCB
      by_cases hoo : oo < 0
      · have HN := Lib.hid (find1_yes HF.out HS2.out hh1 hh2 (HD1.out hoo))
        clear HD1 HD2
        go_wp2
        go_roundw
        case rel => exact ⟨h + 1, j, by go_num, rfl, HN.out, hS6⟩
        case measure => simp [intOf]; omega
      · have HN := Lib.hid (find1_no HF.out HS2.out hh1 hh2 (HD2.out (by omega)))
        clear HD1 HD2
        go_wp2
        go_roundw
        case rel => exact ⟨i, h, rfl, rfl, HN.out, hS6⟩
        case measure => simp [intOf]; omega
    · obtain rfl : i = j := by omega
      have HI1 := Lib.hid (ins1_start (es := es) (a := a) (b := c) (by rw [← HMA.out]; exact HS2.out))
      go_wp2
      go_loopw [13] (S1R w B b es a c i) (fun x _ => i - (intOf x).toNat)
      case atStart => exact ⟨a, es, Nat.le_refl _, by omega, rfl, HI1.out, hSt⟩
      case round =>
        obtain ⟨k, cur, hk1, hk2, rfl, hI, hSc⟩ := hrel
        clear hSt
        have hcl := hI.seg.len
        have HI := Lib.hid hI
        clear hI HI1
        by_cases hki : k < i - 1
        · have d2 : (k : Int) < (i : Int) - 1 := by omega
          obtain ⟨x, hx, EX⟩ := hSc.row.at_ (show k < cur.length by omega)
          obtain ⟨y, hy, EY⟩ := hSc.row.at_ (show k + 1 < cur.length by omega)
          have hT := (hSc.two (show k < cur.length by omega) (show k + 1 < cur.length by omega) y x).drew
          have hst := ins1_step HI.out hk1 (by omega) h3 (HF.out.pre (k + 1) (by have := HMA.out; omega) (by omega))
          rw [at_eq hx, at_eq hy] at hst
          have f0 := hSc.row.fz
          have HT := Lib.hid hT
          have HST := Lib.hid hst
          obtain ⟨q0, q1, q2, q3, q4⟩ := id EX
          obtain ⟨r0, r1, r2, r3, r4⟩ := id EY
          have n1 : ((k : Int) + 1).toNat = k + 1 := by omega
          have n3 : (0 : Int) ≤ (k : Int) + 1 := by omega
          have n5 : (k : Int) + 1 < (es.length : Int) := by omega
          have n7 : (k : Int) < (es.length : Int) := by omega
          have N1 := Lib.hid n1
          clear hx hy hT hst hSc n1 hcl
          go_upto_region 11 with fail
          have n1 := N1.out
          go_region
          clear n1
          go_wp2
          go_roundw
          case rel => exact ⟨k + 1, _, by omega, by omega, by go_num, HST.out, HT.out⟩
          case measure => simp [intOf]; omega
        · have d2 : ¬ (k : Int) < (i : Int) - 1 := by omega
          have hk3 : k = i - 1 := by have := HMA.out; omega
          have HE := Lib.hid (ins1_end (i := i) (by rw [← hk3]; exact HI.out) (by have := HMA.out; omega) HF.out.suf)
          clear hk3 hcl
          go_wp2
          go_end0
          exact ⟨⟨_, rfl⟩, cur, HI.out.seg, HE.out, hSc⟩

set_option maxRecDepth 100000 in
set_option maxHeartbeats 8000000 in
theorem sym2_any (w : World) (B b cp : Nat) (es : List Ev) (a m c : Nat) (W : World) (hes : es.length ≤ 100000) (h1 : a < m) (h2 : m < c) (h3 : c ≤ es.length) (hs1 : SortedR es a m) (hS : SSt w B b es W) (c1 : ¬ m - a = 1) (c2 : c - m = 1) :
    Calls Tryd.prog 63 #[.slice (some ⟨b, 0, Option.none⟩) es.length cp, .int .i64 a, .int .i64 m, .int .i64 c, cmpV] W (RetSort w B b es a c) := by
  have HS1 := Lib.hid hs1
  clear hs1
  unfold cmpV
  have e1 : (((m : Int) - (a : Int)) == 1) = false := by rw [beq_eq_false_iff_ne]; omega
  have e2 : (((c : Int) - (m : Int)) == 1) = true := by simp; omega
  have HMC := Lib.hid (show c = m + 1 by omega)
  clear c1 c2
  go_enter Tryd.func63, Tryd.ntmps63
  go_wp2
  go_loopw [14, 15] (F2R w B b es a m) (fun x y _ => (intOf y).toNat - (intOf x).toNat)
  case atStart => exact ⟨a, m, rfl, rfl, ⟨Nat.le_refl _, Nat.le_refl _, by omega, (fun p h1 h2 => by omega), fun p h1 h2 => by omega⟩, hS⟩
  case round =>
    obtain ⟨i, j, rfl, rfl, hF, hSt⟩ := hrel
    clear hS
    have g1 := hF.lo
    have g2 := hF.hi
    have g3 := hF.le
    have HF := Lib.hid hF
    clear hF
    by_cases hij : i < j
    · have d1 : (i : Int) < (j : Int) := by omega
      go_upto_region 17 with fail
      obtain ⟨h, hh, hh1, hh2⟩ : ∃ h : Nat, ((i : Int) + (j : Int)) / 2 = (h : Int) ∧ i ≤ h ∧ h < j := ⟨(i + j) / 2, by omega, by omega, by omega⟩
      rw [hh]
      clear hh
      have k0 : (h : Int) < (es.length : Int) := by omega
      have k1 : (m : Int) < (es.length : Int) := by omega
      obtain ⟨x, hx, EX⟩ := hSt.row.at_ (show m < es.length by omega)
      obtain ⟨y, hy, EY⟩ := hSt.row.at_ (show h < es.length by omega)
      have CB := fun W => order_any x y W
      unfold Ev.cells at CB
      have hd1 : ordE x y < 0 → beforeB (at_ es (m)) (at_ es (h)) = true := fun h => by rw [at_eq hx, at_eq hy]; exact decide_eq_true h
      have hd2 : ¬ ordE x y < 0 → beforeB (at_ es (m)) (at_ es (h)) = false := fun h => by rw [at_eq hx, at_eq hy]; exact decide_eq_false h
      generalize ordE x y = oo at *
      have HCB := Lib.hid CB
      have HD1 := Lib.hid hd1
      have HD2 := Lib.hid hd2
      obtain ⟨q0, q1, q2, q3, q4⟩ := id EX
      obtain ⟨r0, r1, r2, r3, r4⟩ := id EY
      have hlW := hSt.row.lt
      clear hx hy CB hd1 hd2
      go_region_held3 (fun w' => (w'.cell? ⟨b, m * 5, Option.none⟩ = some (.int .i64 x.time) ∧ w'.cell? ⟨b, m * 5 + 1, Option.none⟩ = some (.int .i64 x.device) ∧ w'.cell? ⟨b, m * 5 + 2, Option.none⟩ = some (.int .i64 x.signal) ∧ w'.cell? ⟨b, m * 5 + 3, Option.none⟩ = some (.bool x.value) ∧ w'.cell? ⟨b, m * 5 + 4, Option.none⟩ = some (.int .i64 x.quality)) ∧
          w'.cell? ⟨b, h * 5, Option.none⟩ = some (.int .i64 y.time) ∧ w'.cell? ⟨b, h * 5 + 1, Option.none⟩ = some (.int .i64 y.device) ∧ w'.cell? ⟨b, h * 5 + 2, Option.none⟩ = some (.int .i64 y.signal) ∧ w'.cell? ⟨b, h * 5 + 3, Option.none⟩ = some (.bool y.value) ∧ w'.cell? ⟨b, h * 5 + 4, Option.none⟩ = some (.int .i64 y.quality)) (go_keep)
        (first
          | ((go_at_call 37; refine (HCB.out _).mono ?_; rintro e' w6 ⟨rfl, hb6'⟩; have hb6 := below_same (a := wr) (B' := wr.heap.size) hb6' rfl rfl rfl rfl (Nat.le_refl _); obtain ⟨t0, t1, t2, t3, t4⟩ := EX.below hb6 hlW; obtain ⟨v0, v1, v2, v3, v4⟩ := EY.below hb6 hlW)))
      have hS6 := hSt.below hb6
      clear t0 t1 t2 t3 t4 v0 v1 v2 v3 v4 q0 q1 q2 q3 q4 r0 r1 r2 r3 r4 EX EY hSt hb6' hb6 HCB
      by_cases hoo : oo < 0
      · have HN := Lib.hid (find2_yes HF.out HS1.out hh1 hh2 (HD1.out hoo))
        have dd : (!decide (oo < 0)) = false := by rw [decide_eq_true hoo]; rfl
        rw [dd]
        clear HD1 HD2
        go_wp2
        go_roundw
        case rel => exact ⟨i, h, rfl, rfl, HN.out, hS6⟩
        case measure => simp [intOf]; omega
      · have HN := Lib.hid (find2_no HF.out HS1.out hh1 hh2 (HD2.out (by omega)))
        have dd : (!decide (oo < 0)) = true := by rw [decide_eq_false hoo]; rfl
        rw [dd]
        clear HD1 HD2
        go_wp2
        go_roundw
        case rel => exact ⟨h + 1, j, by go_num, rfl, HN.out, hS6⟩
        case measure => simp [intOf]; omega
    · obtain rfl : i = j := by omega
      have HI1 := Lib.hid (ins2_start HS1.out)
      go_wp2
      go_loopw [17] (S2R w B b es a m i) (fun x _ => (intOf x).toNat)
      case atStart => exact ⟨m, es, by omega, Nat.le_refl _, rfl, HI1.out, hSt⟩
      case round =>
        obtain ⟨k, cur, hk1, hk2, rfl, hI, hSc⟩ := hrel
        clear hSt
        have hcl := hI.seg.len
        have HI := Lib.hid hI
        clear hI HI1
        by_cases hki : i < k
        · have d2 : (i : Int) < (k : Int) := by omega
          obtain ⟨x, hx, EX⟩ := hSc.row.at_ (show k < cur.length by omega)
          obtain ⟨y, hy, EY⟩ := hSc.row.at_ (show k - 1 < cur.length by omega)
          have hT := (hSc.two (show k < cur.length by omega) (show k - 1 < cur.length by omega) y x).drew
          have hst := ins2_step HI.out (by omega) hk2 (by omega) (HF.out.suf (k - 1) (by omega) (by omega))
          rw [at_eq hx, at_eq hy] at hst
          have f0 := hSc.row.fz
          have HT := Lib.hid hT
          have HST := Lib.hid hst
          obtain ⟨q0, q1, q2, q3, q4⟩ := id EX
          obtain ⟨r0, r1, r2, r3, r4⟩ := id EY
          have n1 : ((k : Int) - 1).toNat = k - 1 := by omega
          have n2 : IntKind.i64.wrap ((k : Int) - 1) = (k : Int) - 1 := IntWalk.i64_in _ (by omega)
          have n3 : (0 : Int) ≤ (k : Int) - 1 := by omega
          have n4 : (1 : Int) ≤ (k : Int) := by omega
          have n5 : (k : Int) - 1 < (es.length : Int) := by omega
          have n7 : (k : Int) < (es.length : Int) := by omega
          have N1 := Lib.hid n1
          have N2 := Lib.hid n2
          clear hx hy hT hst hSc n1 n2 hcl
          go_upto_region 23 with fail
          have n1 := N1.out
          have n2 := N2.out
          go_region
          clear n1 n2
          go_wp2
          go_roundw
          case rel => exact ⟨k - 1, _, by omega, by omega, by go_num, HST.out, HT.out⟩
          case measure => simp [intOf]; omega
        · have d2 : ¬ (i : Int) < (k : Int) := by omega
          have hk3 : k = i := by omega
          have HE := Lib.hid (ins2_end (i := i) (by rw [← hk3]; exact HI.out) HF.out.pre)
          clear hk3 hcl
          go_wp2
          go_end0
          exact ⟨⟨_, rfl⟩, cur, by rw [HMC.out]; exact HI.out.seg, by rw [HMC.out]; exact HE.out, hSc⟩
end Go.Proofs.YtcoablindoknpaaDoor
