/-
  Sorted and Valid of the reference, over any log; what is sorted pair by pair is sorted.
-/
import Derived.Test.YtcoablindoknpaaDoorValid
namespace Go.Proofs.YtcoablindoknpaaDoor
open Go.RowKit

/-- a may stand ahead of b. -/
def leE (a b : Ev) : Prop := beforeB b a = false
theorem leE_iff (a b : Ev) : leE a b ↔ a.time < b.time ∨ (a.time = b.time ∧ (a.device < b.device ∨ (a.device = b.device ∧ a.signal ≤ b.signal))) := by
  unfold leE
  rw [← Bool.not_eq_true, before_iff]
  omega
theorem leE_trans {a b c : Ev} (h1 : leE a b) (h2 : leE b c) : leE a c := by
  rw [leE_iff] at *
  omega
theorem leE_refl (a : Ev) : leE a a := by rw [leE_iff]; omega
/-- No event of the list precedes one of the first n that stands ahead of it; of event n, none of the first m. -/
def SortedTo (es : List Ev) (n m : Nat) : Prop := (∀ i j (a b : Ev), j < i → i < n → es[i]? = some a → es[j]? = some b → leE b a) ∧ ∀ j (a b : Ev), j < m → es[n]? = some a → es[j]? = some b → leE b a
theorem sortedTo_zero (es : List Ev) : SortedTo es 0 0 := ⟨fun _ _ _ _ _ h => absurd h (Nat.not_lt_zero _), fun _ _ _ h => absurd h (Nat.not_lt_zero _)⟩
theorem sortedTo_in {es : List Ev} {n m : Nat} {a b : Ev} (h : SortedTo es n m) (ha : es[n]? = some a) (hb : es[m]? = some b) (hle : leE b a) : SortedTo es n (m + 1) := by
  refine ⟨h.1, fun j x y hj hx hy => ?_⟩
  rcases Nat.lt_succ_iff_lt_or_eq.1 hj with h' | rfl
  · exact h.2 j x y h' hx hy
  · rw [ha] at hx; rw [hb] at hy; cases hx; cases hy; exact hle
theorem sortedTo_out {es : List Ev} {n : Nat} (h : SortedTo es n n) : SortedTo es (n + 1) 0 := by
  refine ⟨fun i j x y hj hi hx hy => ?_, fun _ _ _ h => absurd h (Nat.not_lt_zero _)⟩
  rcases Nat.lt_succ_iff_lt_or_eq.1 hi with h' | rfl
  · exact h.1 i j x y hj h' hx hy
  · exact h.2 j x y hj hx hy
def sortedB (es : List Ev) : Bool := (List.range es.length).all fun k => match es[k]? with
  | Option.none => true
  | some e => prevOk es e k
theorem sorted_pairs {es : List Ev} (h : sortedB es = true) : ∀ (i j : Nat) (a b : Ev), j < i → es[i]? = some a → es[j]? = some b → leE b a := by
  have step : ∀ (k : Nat) (a b : Ev), es[k + 1]? = some a → es[k]? = some b → leE b a := by
    intro k a b ha hb
    unfold sortedB at h
    rw [List.all_eq_true] at h
    have := h (k + 1) (List.mem_range.2 (List.getElem?_eq_some_iff.1 ha).1)
    simp only [ha, prevOk, hb] at this
    unfold leE
    simpa using this
  intro i
  induction i with
  | zero => intro j a b hj; omega
  | succ i ih =>
    intro j a b hj ha hb
    rcases Nat.lt_succ_iff_lt_or_eq.1 hj with h' | rfl
    · have hi : i < es.length := by have := (List.getElem?_eq_some_iff.1 ha).1; omega
      exact leE_trans (ih j es[i] b h' (List.getElem?_eq_getElem hi) hb) (step i a es[i] ha (List.getElem?_eq_getElem hi))
    · exact step j a b ha hb
theorem sorted_ok {es : List Ev} (h : SortedTo es es.length 0) : sortedB es = true := by
  unfold sortedB
  rw [List.all_eq_true]
  intro k hk
  have hk' := List.mem_range.1 hk
  rw [List.getElem?_eq_getElem hk']
  cases k with
  | zero => rfl
  | succ k =>
    have hk2 : k < es.length := by omega
    simp only [prevOk, List.getElem?_eq_getElem hk2]
    have := h.1 (k + 1) k es[k + 1] es[k] (Nat.lt_succ_self _) hk' (List.getElem?_eq_getElem hk') (List.getElem?_eq_getElem hk2)
    unfold leE at this
    rw [this]; rfl
theorem sorted_bad {es : List Ev} {i j : Nat} {a b : Ev} (hj : j < i) (ha : es[i]? = some a) (hb : es[j]? = some b) (h : beforeB a b = true) : sortedB es = false := by
  rw [← Bool.not_eq_true]
  intro hs
  have := sorted_pairs hs i j a b hj ha hb
  unfold leE at this
  rw [h] at this; cases this

def SrO (B : Nat) (W : World) (es : List Ev) (i : Value) (wr : World) : Prop := ∃ k : Nat, k ≤ es.length ∧ i = .int .i64 k ∧ SortedTo es k 0 ∧ Below B W wr
def SrI (B : Nat) (W : World) (es : List Ev) (k : Nat) (i : Value) (wr : World) : Prop := ∃ m : Nat, m ≤ k ∧ i = .int .i64 m ∧ SortedTo es k m ∧ Below B W wr

set_option maxRecDepth 100000 in
set_option maxHeartbeats 4000000 in
theorem sorted_any (A : Option Addr) (c B : Nat) (es : List Ev) (w : World) (hB : B ≤ w.heap.size) (hr : Rws EvC 5 w B A es.length es) (hn : es.length ≤ 1000) :
    Calls Tryd.prog 32 #[.slice A es.length c] w (RetBool (sortedB es) w) := by
  go_enter Tryd.func32, Tryd.ntmps32
  go_wp2
  go_loopw [7] (SrO w.heap.size w es) (fun i _ => es.length - (intOf i).toNat)
  case atStart => exact ⟨0, Nat.zero_le _, rfl, sortedTo_zero _, Below.refl _ _⟩
  case round =>
    obtain ⟨k, hk, rfl, hs, hbel⟩ := hrel
    have HS := Lib.hid hs
    clear hs
    by_cases hlt : k < es.length
    · obtain ⟨b, o, x, rfl, hbB, hx, E0⟩ := evAt hr hlt
      have HX := Lib.hid hx
      clear hx
      go_wp2
      go_loopw [4] (SrI w.heap.size w es k) (fun i _ => k - (intOf i).toNat)
      case atStart => exact ⟨0, Nat.zero_le _, rfl, HS.out, hbel⟩
      case round =>
        clear hbel
        obtain ⟨m, hm, rfl, hs2, hbel⟩ := hrel
        have HS2 := Lib.hid hs2
        have hsz := hbel.size
        clear hs2
        by_cases hmt : m < k
        · obtain ⟨b1, o1, y, hA, -, hy, F0⟩ := evAt hr (show m < es.length by omega)
          obtain ⟨rfl, rfl⟩ : b = b1 ∧ o = o1 := by injection hA with h; injection h with h1 h2; exact ⟨h1, h2⟩
          have EX := E0.below (hbel.mono hB) hbB
          have FY := F0.below (hbel.mono hB) hbB
          obtain ⟨q0, q1, q2, q3, q4⟩ := id EX
          obtain ⟨r0, r1, r2, r3, r4⟩ := id FY
          have HY := Lib.hid hy
          have CB := fun W => rbefore_any x y W
          unfold Ev.cells at CB
          cases hbb : beforeB x y
          all_goals
            rw [hbb] at CB
            have HCB := Lib.hid CB
            have HBB := Lib.hid hbb
            have n0 : (0 : Int) ≤ (m : Int) := by omega
            have n1 : (m : Int) < (es.length : Int) := by omega
            have n2 : (0 : Int) ≤ (k : Int) := by omega
            have n3 : (k : Int) < (es.length : Int) := by omega
            have hb' : b < wr.heap.size := by omega
            clear hA hy F0 CB hbb
            go_wp2
            go_region_held3 (fun w' => (w'.cell? ⟨b, o + k * 5, Option.none⟩ = some (.int .i64 x.time) ∧ w'.cell? ⟨b, o + k * 5 + 1, Option.none⟩ = some (.int .i64 x.device) ∧ w'.cell? ⟨b, o + k * 5 + 2, Option.none⟩ = some (.int .i64 x.signal) ∧ w'.cell? ⟨b, o + k * 5 + 3, Option.none⟩ = some (.bool x.value) ∧ w'.cell? ⟨b, o + k * 5 + 4, Option.none⟩ = some (.int .i64 x.quality)) ∧
                w'.cell? ⟨b, o + m * 5, Option.none⟩ = some (.int .i64 y.time) ∧ w'.cell? ⟨b, o + m * 5 + 1, Option.none⟩ = some (.int .i64 y.device) ∧ w'.cell? ⟨b, o + m * 5 + 2, Option.none⟩ = some (.int .i64 y.signal) ∧ w'.cell? ⟨b, o + m * 5 + 3, Option.none⟩ = some (.bool y.value) ∧ w'.cell? ⟨b, o + m * 5 + 4, Option.none⟩ = some (.int .i64 y.quality)) (go_keep)
              (first
                | ((go_at_call 20; refine (HCB.out _).mono ?_; rintro e w5 ⟨rfl, hb5'⟩; have hb5 := below_same (a := wr) (B' := wr.heap.size) hb5' rfl rfl rfl rfl (Nat.le_refl _); obtain ⟨t0, t1, t2, t3, t4⟩ := EX.below hb5 hb'; obtain ⟨v0, v1, v2, v3, v4⟩ := FY.below hb5 hb')))
            have hbel5 := hbel.trans (hb5.mono hsz)
            go_wp2
          · go_roundw
            case rel => exact ⟨m + 1, by omega, by go_num, sortedTo_in HS2.out HX.out HY.out HBB.out, hbel5⟩
            case measure => simp [intOf]; omega
          · go_ret
            exact ⟨ret_bool (sorted_bad hmt HX.out HY.out HBB.out).symm, hbel5⟩
        · obtain rfl : m = k := by omega
          go_wp2
          go_roundw
          case rel => exact ⟨m + 1, by omega, by go_num, sortedTo_out HS2.out, hbel⟩
          case measure => simp [intOf]; omega
    · go_wp2
      go_ret
      obtain rfl : k = es.length := by omega
      exact ⟨ret_bool (sorted_ok HS.out).symm, hbel⟩

/-- The first k events are good and not ahead of the floor. -/
def AllGood (g : LogM) (k : Nat) : Prop := ∀ j e, j < k → g.events[j]? = some e → goodB e = true ∧ g.floor ≤ e.time
theorem allGood_zero (g : LogM) : AllGood g 0 := fun _ _ h => absurd h (Nat.not_lt_zero _)
theorem allGood_succ {g : LogM} {k : Nat} {e : Ev} (h : AllGood g k) (he : g.events[k]? = some e) (hg : goodB e = true) (ht : g.floor ≤ e.time) : AllGood g (k + 1) := by
  intro j x hj hx
  rcases Nat.lt_succ_iff_lt_or_eq.1 hj with h' | rfl
  · exact h j x h' hx
  · rw [he] at hx; cases hx; exact ⟨hg, ht⟩
theorem valid_sorted {g : LogM} (hh : headB g = true) (h : AllGood g g.events.length) : validB g = sortedB g.events := by
  unfold validB sortedB
  rw [hh, Bool.true_and, Bool.eq_iff_iff, List.all_eq_true, List.all_eq_true]
  refine forall_congr' fun k => ⟨fun hk hm => ?_, fun hk hm => ?_⟩
  · have hl := List.mem_range.1 hm
    have := hk hm
    rw [okAt_eq (List.getElem?_eq_getElem hl)] at this
    rw [List.getElem?_eq_getElem hl]
    simp only [Bool.and_eq_true] at this
    exact this.2
  · have hl := List.mem_range.1 hm
    have := hk hm
    rw [List.getElem?_eq_getElem hl] at this
    obtain ⟨h1, h2⟩ := h k _ hl (List.getElem?_eq_getElem hl)
    rw [okAt_eq (List.getElem?_eq_getElem hl), h1]
    simp [h2, this]
def GdR (B : Nat) (W1 : World) (g : LogM) (i : Value) (wr : World) : Prop := ∃ k : Nat, k ≤ g.events.length ∧ i = .int .i64 k ∧ AllGood g k ∧ Below B W1 wr

set_option maxRecDepth 100000 in
set_option maxHeartbeats 4000000 in
theorem rvalid_any (A : Option Addr) (c B : Nat) (g : LogM) (w : World) (hB : B ≤ w.heap.size) (hr : Rws EvC 5 w B A g.events.length g.events) :
    Calls Tryd.prog 16 #[.agg #[.int .i64 g.room, .slice A g.events.length c, .int .i64 g.lost, .int .i64 g.floor]] w (RetBool (validB g) w) := by
  have LB0 := LB.new w g A c 24
  cases hh : headB g with
  | false =>
    have e0 := Lib.hid (valid_head hh)
    unfold headB withinB at hh
    rw [decide_eq_false_iff_not] at hh
    simp only [decide_eq_true_eq] at hh
    have h' : g.room < 1 ∨ (1 ≤ g.room ∧ 512 < g.room) ∨ (1 ≤ g.room ∧ g.room ≤ 512 ∧ g.room < (g.events.length : Int)) ∨ (1 ≤ g.room ∧ g.room ≤ 512 ∧ (g.events.length : Int) ≤ g.room ∧ g.lost < 0) ∨
        (1 ≤ g.room ∧ g.room ≤ 512 ∧ (g.events.length : Int) ≤ g.room ∧ 0 ≤ g.lost ∧ 1000000000 < g.lost) ∨ (1 ≤ g.room ∧ g.room ≤ 512 ∧ (g.events.length : Int) ≤ g.room ∧ 0 ≤ g.lost ∧ g.lost ≤ 1000000000 ∧ g.floor < 0) ∨
        (1 ≤ g.room ∧ g.room ≤ 512 ∧ (g.events.length : Int) ≤ g.room ∧ 0 ≤ g.lost ∧ g.lost ≤ 1000000000 ∧ 0 ≤ g.floor ∧ 1000000000 < g.floor) ∨
        (1 ≤ g.room ∧ g.room ≤ 512 ∧ (g.events.length : Int) ≤ g.room ∧ 0 ≤ g.lost ∧ g.lost ≤ 1000000000 ∧ 0 ≤ g.floor ∧ g.floor ≤ 1000000000 ∧ (g.lost == 0) = true ∧ (g.floor != 0) = true) := by
      simp only [beq_iff_eq, bne_iff_ne]
      omega
    clear hh
    rcases h' with h1 | ⟨h1, h2⟩ | ⟨h1, h2, h3⟩ | ⟨h1, h2, h3, h4⟩ | ⟨h1, h2, h3, h4, h5⟩ | ⟨h1, h2, h3, h4, h5, h6⟩ | ⟨h1, h2, h3, h4, h5, h6, h7⟩ | ⟨h1, h2, h3, h4, h5, h6, h7, h8, h9⟩
    all_goals
      go_enter Tryd.func16, Tryd.ntmps16
      go_wp2
      go_ret
      exact ⟨ret_bool e0.out.symm, box_below _ _⟩
  | true =>
  have HH := Lib.hid hh
  unfold headB withinB at hh
  rw [decide_eq_true_eq] at hh
  simp only [decide_eq_true_eq] at hh
  obtain ⟨h1, h2, h3, ⟨h4, h5⟩, ⟨h6, h7⟩, h8⟩ := hh
  have h9 : (g.lost == 0) = false ∨ (g.lost == 0) = true ∧ (g.floor != 0) = false := by
    by_cases e : g.lost = 0
    · right; refine ⟨by simpa using e, ?_⟩
      by_cases e2 : g.floor = 0
      · simp [e2]
      · exact absurd ⟨e, e2⟩ h8
    · left; simpa using e
  have hbox := box_below w (Obj.cells #[.int .i64 g.room, .slice A g.events.length c, .int .i64 g.lost, .int .i64 g.floor] 24)
  have hlen : g.events.length ≤ 512 := by omega
  clear h8
  rcases h9 with t1 | ⟨t1, t2⟩
  all_goals
    go_enter Tryd.func16, Tryd.ntmps16
    go_wp2_with fail
    generalize w.alloc (Obj.cells #[.int .i64 g.room, .slice A g.events.length c, .int .i64 g.lost, .int .i64 g.floor] 24) = W1 at *
    have hs1 := hbox.size
    have hl1 := LB0.lt
    go_loopw [54] (GdR W1.heap.size W1 g) (fun i _ => g.events.length - (intOf i).toNat)
    case atStart => exact ⟨0, Nat.zero_le _, rfl, allGood_zero _, Below.refl _ _⟩
    case round =>
      obtain ⟨k, hk, rfl, hall, hbel⟩ := hrel
      have HA := Lib.hid hall
      have hsz := hbel.size
      have hbw := hbox.trans (hbel.mono hs1)
      clear hall
      by_cases hlt : k < g.events.length
      · obtain ⟨b, o, x, rfl, hbB, hx, E0⟩ := evAt hr hlt
        obtain ⟨p0, p1, p2, p3, p4⟩ := E0.below (hbw.mono hB) hbB
        have HX := Lib.hid hx
        have hbel1 := hbel.alloc hsz (Obj.cells #[.int .i64 x.time, .int .i64 x.device, .int .i64 x.signal, .bool x.value, .int .i64 x.quality] 26)
        have EN := EB.new wr x 26
        have C := fun W => rgood_any x W
        unfold Ev.cells at C
        have hb' : b < wr.heap.size := by omega
        clear hx
        cases hg : goodB x with
        | false =>
          rw [hg] at C
          have HC := Lib.hid C
          have e0 := Lib.hid (valid_bad hlt (ok_bad1 HX.out hg))
          clear C hg E0
          go_wp2_with fail
          refine (HC.out _).mono ?_
          rintro e w3 ⟨rfl, hb3⟩
          go_wp2
          go_ret
          exact ⟨ret_bool e0.out.symm, hbox.trans ((hbel1.trans (hb3.mono (by simp; omega))).mono hs1)⟩
        | true =>
        rw [hg] at C
        have HC := Lib.hid C
        have HG := Lib.hid hg
        clear C hg E0
        go_wp2_with fail
        refine (HC.out _).mono ?_
        rintro e w3 ⟨rfl, hb3⟩
        have hbel3 := hbel1.trans (hb3.mono (by simp; omega))
        have hbw3 := hbox.trans (hbel3.mono hs1)
        obtain ⟨-, l0, l1, l2, l3⟩ := LB0.below hbel3 hl1
        have EN3 := EN.below hb3 (by simp)
        obtain ⟨q0, q1, q2, q3, q4⟩ := id EN3
        clear p0 p1 p2 p3 p4 hb3 HC
        by_cases ht : x.time < g.floor
        · have e0 := Lib.hid (valid_bad hlt (ok_bad2 HX.out ht))
          go_wp2
          go_ret
          exact ⟨ret_bool e0.out.symm, hbw3⟩
        · have HT := Lib.hid (show g.floor ≤ x.time by omega)
          go_wp2
          go_roundw
          case rel => exact ⟨k + 1, by omega, by go_num, allGood_succ HA.out HX.out HG.out HT.out, hbel3⟩
          case measure => simp [intOf]; omega
      · obtain rfl : k = g.events.length := by omega
        obtain ⟨-, l0, l1, l2, l3⟩ := LB0.below hbel hl1
        have C := sorted_any A c B g.events wr (by omega) (hr.mono EvC.mono (Nat.le_refl _) (hbw.mono hB)) (by omega)
        rw [← valid_sorted HH.out HA.out] at C
        have HC := Lib.hid C
        have hsw := hbw.size
        clear C
        go_wp2_with fail
        refine HC.out.mono ?_
        rintro e w3 ⟨rfl, hb3⟩
        go_wp2
        go_ret
        exact ⟨rfl, hbw.trans (hb3.mono hsw)⟩
end Go.Proofs.YtcoablindoknpaaDoor
