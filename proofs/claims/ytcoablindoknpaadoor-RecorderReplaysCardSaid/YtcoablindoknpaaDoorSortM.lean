/-
  A row of events that is sorted in place: what its memory holds, and the exchange of two of its events.
-/
import Derived.Test.YtcoablindoknpaaDoorSortP
import Derived.BigRegion
namespace Go.Proofs.YtcoablindoknpaaDoor
open Go.RowKit

/-- The events of block b, from its first cell on; they may be written. -/
structure SRow (W : World) (b : Nat) (es : List Ev) : Prop where
  lt : b < W.heap.size
  ev : ∀ k e, es[k]? = some e → EB W b (k * 5) e
  fz : ∀ j, W.frozen? ⟨b, j, Option.none⟩ = false
theorem EB.same {W W' : World} {b o : Nat} {e : Ev} (h : EB W b o e) (hc : ∀ j, W'.cell? ⟨b, j, Option.none⟩ = W.cell? ⟨b, j, Option.none⟩) : EB W' b o e :=
  ⟨(hc _).trans h.c0, (hc _).trans h.c1, (hc _).trans h.c2, (hc _).trans h.c3, (hc _).trans h.c4⟩
theorem SRow.below {W W' : World} {b : Nat} {es : List Ev} (h : SRow W b es) (hb : Below W.heap.size W W') : SRow W' b es :=
  ⟨Nat.lt_of_lt_of_le h.lt hb.size, fun k e he => (h.ev k e he).below hb h.lt, fun j => (hb.frozen (p := ⟨b, j, Option.none⟩) h.lt).trans (h.fz j)⟩
theorem SRow.at_ {W : World} {b : Nat} {es : List Ev} (h : SRow W b es) {k : Nat} (hk : k < es.length) : ∃ e, es[k]? = some e ∧ EB W b (k * 5) e := ⟨_, List.getElem?_eq_getElem hk, h.ev k _ (List.getElem?_eq_getElem hk)⟩

/-- An event is written at a place. -/
def put5 (W : World) (b o : Nat) (e : Ev) : World := ((((W.setCell ⟨b, o, Option.none⟩ (.int .i64 e.time)).setCell ⟨b, o + 1, Option.none⟩ (.int .i64 e.device)).setCell ⟨b, o + 2, Option.none⟩ (.int .i64 e.signal)).setCell ⟨b, o + 3, Option.none⟩ (.bool e.value)).setCell ⟨b, o + 4, Option.none⟩ (.int .i64 e.quality)
theorem put5_size (W : World) (b o : Nat) (e : Ev) : (put5 W b o e).heap.size = W.heap.size := by simp [put5]
theorem put5_fz (W : World) (b o : Nat) (e : Ev) (a : Addr) : (put5 W b o e).frozen? a = W.frozen? a := by
  unfold put5
  rw [World.frozen?_setCell, World.frozen?_setCell, World.frozen?_setCell, World.frozen?_setCell, World.frozen?_setCell]
theorem put5_below {B : Nat} {w W : World} (h : Below B w W) {b : Nat} (hb : B ≤ b) (o : Nat) (e : Ev) : Below B w (put5 W b o e) :=
  ((((h.setCell (p := ⟨b, o, Option.none⟩) hb _).setCell (p := ⟨b, o + 1, Option.none⟩) hb _).setCell (p := ⟨b, o + 2, Option.none⟩) hb _).setCell (p := ⟨b, o + 3, Option.none⟩) hb _).setCell (p := ⟨b, o + 4, Option.none⟩) hb _
theorem put5_other {W : World} {b o : Nat} {e : Ev} {j : Nat} (h : j < o ∨ o + 5 ≤ j) : (put5 W b o e).cell? ⟨b, j, Option.none⟩ = W.cell? ⟨b, j, Option.none⟩ := by
  unfold put5
  rw [World.cell?_setCell_other _ _ _ _ (by intro he; injection he with _ he; omega), World.cell?_setCell_other _ _ _ _ (by intro he; injection he with _ he; omega), World.cell?_setCell_other _ _ _ _ (by intro he; injection he with _ he; omega), World.cell?_setCell_other _ _ _ _ (by intro he; injection he with _ he; omega), World.cell?_setCell_other _ _ _ _ (by intro he; injection he with _ he; omega)]
theorem put5_at {W : World} {b o : Nat} {e0 e : Ev} (h : EB W b o e0) : EB (put5 W b o e) b o e := by
  obtain ⟨c0, c1, c2, c3, c4⟩ := h
  unfold put5
  exact ⟨by go_simp, by go_simp, by go_simp, by go_simp, by go_simp⟩
theorem SRow.put {W : World} {b : Nat} {es : List Ev} (h : SRow W b es) {k : Nat} (hk : k < es.length) (e : Ev) : SRow (put5 W b (k * 5) e) b (es.set k e) := by
  refine ⟨by rw [put5_size]; exact h.lt, fun j x hx => ?_, fun j => by rw [put5_fz]; exact h.fz j⟩
  rw [List.getElem?_set] at hx
  by_cases hkj : k = j
  · subst hkj
    rw [if_pos rfl, if_pos hk] at hx
    cases hx
    exact put5_at (h.ev k _ (List.getElem?_eq_getElem hk))
  · rw [if_neg hkj] at hx
    have hE := h.ev j x hx
    refine ⟨?_, ?_, ?_, ?_, ?_⟩
    · rw [put5_other (by omega)]; exact hE.c0
    · rw [put5_other (by omega)]; exact hE.c1
    · rw [put5_other (by omega)]; exact hE.c2
    · rw [put5_other (by omega)]; exact hE.c3
    · rw [put5_other (by omega)]; exact hE.c4
/-- Data of the row: all memory below B is as in w. -/
structure SSt (w : World) (B b : Nat) (es : List Ev) (W : World) : Prop where
  row : SRow W b es
  bel : Below B w W
  le : B ≤ b
theorem SSt.below {w W W' : World} {B b : Nat} {es : List Ev} (h : SSt w B b es W) (hb : Below W.heap.size W W') : SSt w B b es W' := ⟨h.row.below hb, h.bel.trans (hb.mono (by have := h.le; have := h.row.lt; omega)), h.le⟩
theorem SSt.drew {w W : World} {B b : Nat} {es : List Ev} (h : SSt w B b es W) : SSt w B b es W.drew := h.below (Below.refl _ _).drew
theorem SSt.two {w W : World} {B b : Nat} {es : List Ev} (h : SSt w B b es W) {i j : Nat} (hi : i < es.length) (hj : j < es.length) (y x : Ev) : SSt w B b ((es.set i y).set j x) (put5 (put5 W b (i * 5) y) b (j * 5) x) :=
  ⟨(h.row.put hi y).put (by rw [List.length_set]; exact hj) x, put5_below (put5_below h.bel h.le _ _) h.le _ _, h.le⟩
/-- A call that hands nothing back leaves the row with es. -/
def RetNone (w : World) (B b : Nat) (es : List Ev) (e : Ending) (W : World) : Prop := (∃ v, e = .returned v) ∧ SSt w B b es W

def swapN (es : List Ev) (a c : Nat) : Nat → List Ev
  | 0 => es
  | k + 1 => ((swapN es a c k).set (a + k) (at_ (swapN es a c k) (c + k))).set (c + k) (at_ (swapN es a c k) (a + k))
theorem swapN_len (es : List Ev) (a c : Nat) : ∀ k, (swapN es a c k).length = es.length
  | 0 => rfl
  | k + 1 => by rw [swapN, List.length_set, List.length_set, swapN_len es a c k]
theorem swapN_at (es : List Ev) (a c : Nat) : ∀ k, a + k ≤ c → c + k ≤ es.length → ∀ i, at_ (swapN es a c k) i = if a ≤ i ∧ i < a + k then at_ es (i - a + c) else if c ≤ i ∧ i < c + k then at_ es (i - c + a) else at_ es i
  | 0, _, _, i => by rw [if_neg (by omega), if_neg (by omega)]; rfl
  | k + 1, h1, h2, i => by
    have ih := swapN_at es a c k (by omega) (by omega)
    have hl := swapN_len es a c k
    rw [swapN, at_set _ _ _ _ (by rw [List.length_set]; omega), at_set _ _ _ _ (by omega)]
    by_cases e1 : i = c + k
    · rw [if_pos e1, if_neg (by omega), if_pos (by omega), ih, if_neg (by omega), if_neg (by omega), show i - c + a = a + k by omega]
    · rw [if_neg e1]
      by_cases e2 : i = a + k
      · rw [if_pos e2, if_pos (by omega), ih, if_neg (by omega), if_neg (by omega), show i - a + c = c + k by omega]
      · rw [if_neg e2, ih]
        by_cases e3 : a ≤ i ∧ i < a + k
        · rw [if_pos e3, if_pos (by omega)]
        · rw [if_neg e3, if_neg (show ¬ (a ≤ i ∧ i < a + (k + 1)) by omega)]
          by_cases e4 : c ≤ i ∧ i < c + k
          · rw [if_pos e4, if_pos (by omega)]
          · rw [if_neg e4, if_neg (by omega)]

def cmpV : Value := .func (.func 37) #[] #[]
def SwR (w : World) (B b : Nat) (es : List Ev) (a c n : Nat) (i : Value) (wr : World) : Prop := ∃ k : Nat, k ≤ n ∧ i = .int .i64 k ∧ SSt w B b (swapN es a c k) wr

set_option maxRecDepth 100000 in
set_option maxHeartbeats 4000000 in
theorem swapRange_any (w : World) (B b cp : Nat) (es : List Ev) (hes : es.length ≤ 100000) (a c n : Nat) (h1 : a + n ≤ c) (h2 : c + n ≤ es.length) (W : World) (hS : SSt w B b es W) :
    Calls Tryd.prog 76 #[.slice (some ⟨b, 0, Option.none⟩) es.length cp, .int .i64 a, .int .i64 c, .int .i64 n, cmpV] W (RetNone w B b (swapN es a c n)) := by
  unfold cmpV
  go_enter Tryd.func76, Tryd.ntmps76
  go_wp2
  go_loopw [10] (SwR w B b es a c n) (fun i _ => n - (intOf i).toNat)
  case atStart => exact ⟨0, Nat.zero_le _, rfl, hS⟩
  case round =>
    obtain ⟨k, hk, rfl, hSt⟩ := hrel
    by_cases hlt : k < n
    · have hl := swapN_len es a c k
      have hak : a + k < (swapN es a c k).length := by omega
      have hck : c + k < (swapN es a c k).length := by omega
      obtain ⟨x, hx, EX⟩ := hSt.row.at_ hak
      obtain ⟨y, hy, EY⟩ := hSt.row.at_ hck
      have f0 := hSt.row.fz
      have hsw : swapN es a c (k + 1) = ((swapN es a c k).set (a + k) y).set (c + k) x := by rw [swapN, at_eq hx, at_eq hy]
      have hT := (hSt.two hak hck y x).drew
      rw [← hsw] at hT
      have HT := Lib.hid hT
      obtain ⟨q0, q1, q2, q3, q4⟩ := id EX
      obtain ⟨r0, r1, r2, r3, r4⟩ := id EY
      have n1 : ((a : Int) + (k : Int)).toNat = a + k := by omega
      have n2 : ((c : Int) + (k : Int)).toNat = c + k := by omega
      have k0 : (0 : Int) ≤ (a : Int) + (k : Int) := by omega
      have k1 : (0 : Int) ≤ (c : Int) + (k : Int) := by omega
      have k2 : (a : Int) + (k : Int) < (es.length : Int) := by omega
      have k3 : (c : Int) + (k : Int) < (es.length : Int) := by omega
      have N1 := Lib.hid n1
      have N2 := Lib.hid n2
      clear hl hx hy hsw hT hSt hS hak hck n1 n2
      go_upto_region 3 with fail
      have n1 := N1.out
      have n2 := N2.out
      go_region
      clear n1 n2
      go_wp2
      go_roundw
      case rel => exact ⟨k + 1, by omega, by go_num, HT.out⟩
      case measure => simp [intOf]; omega
    · obtain rfl : k = n := by omega
      go_wp2
      go_end0
      exact ⟨⟨_, rfl⟩, hSt⟩

/-- The first i places from a on are in order. -/
def RetSort (w : World) (B b : Nat) (es : List Ev) (lo hi : Nat) (e : Ending) (W : World) : Prop := (∃ v, e = .returned v) ∧ ∃ es', Seg es es' lo hi ∧ SortedR es' lo hi ∧ SSt w B b es' W
def InO (w : World) (B b : Nat) (es : List Ev) (lo hi : Nat) (i : Value) (wr : World) : Prop := ∃ (k : Nat) (cur : List Ev), lo < k ∧ (k ≤ hi ∨ k = lo + 1) ∧ i = .int .i64 k ∧ Seg es cur lo hi ∧ SortedR cur lo k ∧ SSt w B b cur wr
def InI (w : World) (B b : Nat) (es : List Ev) (lo hi k : Nat) (i : Value) (wr : World) : Prop := ∃ (j : Nat) (cur : List Ev), lo ≤ j ∧ j ≤ k ∧ i = .int .i64 j ∧ Seg es cur lo hi ∧ AllBut cur lo (k + 1) j ∧ SSt w B b cur wr
def AtI (w : World) (B b : Nat) (cur : List Ev) (lo j : Nat) (v : Value) (W : World) : Prop := ∃ bb : Bool, v = .bool bb ∧ (bb = true → lo < j ∧ beforeB (at_ cur j) (at_ cur (j - 1)) = true) ∧ (bb = false → j ≤ lo ∨ leE (at_ cur (j - 1)) (at_ cur j)) ∧ SSt w B b cur W

set_option maxRecDepth 100000 in
set_option maxHeartbeats 4000000 in
theorem insSort_any (w : World) (B b cp : Nat) (es : List Ev) (hes : es.length ≤ 100000) (lo hi : Nat) (h1 : lo ≤ hi) (h2 : hi ≤ es.length) (W : World) (hS : SSt w B b es W) :
    Calls Tryd.prog 62 #[.slice (some ⟨b, 0, Option.none⟩) es.length cp, .int .i64 lo, .int .i64 hi, cmpV] W (RetSort w B b es lo hi) := by
  unfold cmpV
  go_enter Tryd.func62, Tryd.ntmps62
  go_wp2
  go_loopw [8] (InO w B b es lo hi) (fun i _ => hi - (intOf i).toNat)
  case atStart => exact ⟨lo + 1, es, Nat.lt_succ_self _, .inr rfl, by go_num, Seg.refl _ _ _, (fun i j h1 h2 h3 => by omega), hS⟩
  case round =>
    obtain ⟨k, cur, hk1, hk2, rfl, hseg, hsort, hSt⟩ := hrel
    by_cases hlt : k < hi
    case neg =>
      have hb : ¬ (k : Int) < (hi : Int) := by omega
      have HG := Lib.hid hseg
      have HS := Lib.hid hsort
      clear hseg hsort
      go_wp2
      go_end0
      exact ⟨⟨_, rfl⟩, cur, HG.out, fun i j a1 a2 a3 => HS.out i j a1 a2 (by omega), hSt⟩
    have hb : (k : Int) < (hi : Int) := by omega
    have HI : InI w B b es lo hi k (.int .i64 k) wr := ⟨k, cur, by omega, Nat.le_refl _, rfl, hseg, allBut_of hsort, hSt⟩
    have HIh := Lib.hid HI
    clear HI hseg hsort hSt hS
    go_wp2
    go_loopw [9] (InI w B b es lo hi k) (fun i _ => (intOf i).toNat)
    case atStart => exact HIh.out
    case round =>
      clear HIh
      obtain ⟨j, cur, hj1, hj2, rfl, hseg, hall, hSt⟩ := hrel
      have hcl := hseg.len
      have HCL := Lib.hid hcl
      have hjl : j < cur.length := by omega
      have HSG := Lib.hid hseg
      have HAL := Lib.hid hall
      clear hseg hall
      go_upto_region 4 with fail
      go_cut [34] (AtI w B b cur lo j)
      case first =>
        by_cases hjl0 : lo < j
        case neg =>
          have d0 : ¬ (lo : Int) < (j : Int) := by omega
          go_wp2
          go_quiet (fail)
          go_wp2_with fail
          go_meet
          exact ⟨false, rfl, (fun h => by cases h), fun _ => .inl (by omega), hSt.below (below_drewN (Below.refl _ _) _)⟩
        obtain ⟨x, hx, EX⟩ := hSt.row.at_ hjl
        obtain ⟨y, hy, EY⟩ := hSt.row.at_ (show j - 1 < cur.length by omega)
        have CB := fun W => order_any x y W
        unfold Ev.cells at CB
        have hd1 : ordE x y < 0 → beforeB (at_ cur j) (at_ cur (j - 1)) = true := fun h => by rw [at_eq hx, at_eq hy]; exact decide_eq_true h
        have hd2 : ¬ ordE x y < 0 → leE (at_ cur (j - 1)) (at_ cur j) := fun h => by rw [at_eq hx, at_eq hy]; exact decide_eq_false h
        generalize ordE x y = oo at *
        have HCB := Lib.hid CB
        have HD1 := Lib.hid hd1
        have HD2 := Lib.hid hd2
        obtain ⟨q0, q1, q2, q3, q4⟩ := id EX
        obtain ⟨r0, r1, r2, r3, r4⟩ := id EY
        have hlW := hSt.row.lt
        have n0 : (lo : Int) < (j : Int) := by omega
        have n6 : decide ((lo : Int) < (j : Int)) = true := by simpa using hjl0
        have n1 : ((j : Int) - 1).toNat = j - 1 := by omega
        have n2 : IntKind.i64.wrap ((j : Int) - 1) = (j : Int) - 1 := IntWalk.i64_in _ (by omega)
        have n3 : (0 : Int) ≤ (j : Int) - 1 := by omega
        have n4 : (1 : Int) ≤ (j : Int) := by omega
        have n5 : (j : Int) - 1 < (es.length : Int) := by have := HCL.out; omega
        have n7 : (j : Int) < (es.length : Int) := by have := HCL.out; omega
        have N1 := Lib.hid n1
        have N2 := Lib.hid n2
        clear hx hy CB hd1 hd2 n1 n2
        go_wp2
        have n1 := N1.out
        have n2 := N2.out
        go_region_held3 (fun w' => (w'.cell? ⟨b, j * 5, Option.none⟩ = some (.int .i64 x.time) ∧ w'.cell? ⟨b, j * 5 + 1, Option.none⟩ = some (.int .i64 x.device) ∧ w'.cell? ⟨b, j * 5 + 2, Option.none⟩ = some (.int .i64 x.signal) ∧ w'.cell? ⟨b, j * 5 + 3, Option.none⟩ = some (.bool x.value) ∧ w'.cell? ⟨b, j * 5 + 4, Option.none⟩ = some (.int .i64 x.quality)) ∧
            w'.cell? ⟨b, (j - 1) * 5, Option.none⟩ = some (.int .i64 y.time) ∧ w'.cell? ⟨b, (j - 1) * 5 + 1, Option.none⟩ = some (.int .i64 y.device) ∧ w'.cell? ⟨b, (j - 1) * 5 + 2, Option.none⟩ = some (.int .i64 y.signal) ∧ w'.cell? ⟨b, (j - 1) * 5 + 3, Option.none⟩ = some (.bool y.value) ∧ w'.cell? ⟨b, (j - 1) * 5 + 4, Option.none⟩ = some (.int .i64 y.quality)) (go_keep)
          (first
            | ((go_at_call 37; refine (HCB.out _).mono ?_; rintro e' w6 ⟨rfl, hb6'⟩; have hb6 := below_same (a := wr) (B' := wr.heap.size) hb6' rfl rfl rfl rfl (Nat.le_refl _); obtain ⟨t0, t1, t2, t3, t4⟩ := EX.below hb6 hlW; obtain ⟨v0, v1, v2, v3, v4⟩ := EY.below hb6 hlW)))
        clear n1 n2
        go_wp2_with fail
        go_meet
        exact ⟨decide (oo < 0), rfl, fun h => ⟨hjl0, HD1.out (of_decide_eq_true h)⟩, fun h => .inr (HD2.out (by have := of_decide_eq_false h; omega)), hSt.below hb6⟩
      case rest =>
        obtain ⟨bb, rfl, hb1, hb2, hSc⟩ := hcut
        clear hSt
        cases bb with
        | false =>
          have HDN := Lib.hid (allBut_done HAL.out (hb2 rfl))
          clear hb1 hb2
          go_wp2
          go_roundw
          case rel => exact ⟨k + 1, cur, by omega, .inl (by omega), by go_num, HSG.out, HDN.out, hSc⟩
          case measure => simp [intOf]; omega
        | true =>
          obtain ⟨hlj, hbf⟩ := hb1 rfl
          have hcl := HCL.out
          obtain ⟨x, hx, EX⟩ := hSc.row.at_ hjl
          obtain ⟨y, hy, EY⟩ := hSc.row.at_ (show j - 1 < cur.length by omega)
          have hT := (hSc.two hjl (show j - 1 < cur.length by omega) y x).drew
          have hsg := HSG.out.trans (seg_adj (a := lo) (b := hi) hlj (by omega) hjl hbf)
          have hab := allBut_step hlj (show j < k + 1 by omega) (by omega) HAL.out hbf
          rw [at_eq hx, at_eq hy] at hsg hab
          have f0 := hSc.row.fz
          have HT := Lib.hid hT
          have HG2 := Lib.hid hsg
          have HA2 := Lib.hid hab
          obtain ⟨q0, q1, q2, q3, q4⟩ := id EX
          obtain ⟨r0, r1, r2, r3, r4⟩ := id EY
          have n1 : ((j : Int) - 1).toNat = j - 1 := by omega
          have n2 : IntKind.i64.wrap ((j : Int) - 1) = (j : Int) - 1 := IntWalk.i64_in _ (by omega)
          have n3 : (0 : Int) ≤ (j : Int) - 1 := by omega
          have n4 : (1 : Int) ≤ (j : Int) := by omega
          have n5 : (j : Int) - 1 < (es.length : Int) := by omega
          have n7 : (j : Int) < (es.length : Int) := by omega
          have N1 := Lib.hid n1
          have N2 := Lib.hid n2
          clear hb1 hb2 hbf hx hy hT hsg hab hSc n1 n2 hcl
          go_upto_region 6 with fail
          have n1 := N1.out
          have n2 := N2.out
          go_region
          clear n1 n2
          go_wp2
          go_roundw
          case rel => exact ⟨j - 1, _, by omega, by omega, by go_num, HG2.out, HA2.out, HT.out⟩
          case measure => simp [intOf]; omega
end Go.Proofs.YtcoablindoknpaaDoor
