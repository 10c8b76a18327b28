/-
  Valid of the program, over any log.
-/
import Derived.Test.YtcoablindoknpaaDoorEv
namespace Go.Proofs.YtcoablindoknpaaDoor
open Go.RowKit

structure LogM where
  room : Int
  events : List Ev
  lost : Int
  floor : Int

def headB (g : LogM) : Bool := decide (1 ≤ g.room ∧ g.room ≤ 512 ∧ (g.events.length : Int) ≤ g.room ∧ withinB g.lost 1000000000 = true ∧ withinB g.floor 1000000000 = true ∧ ¬ (g.lost = 0 ∧ g.floor ≠ 0))
def prevOk (es : List Ev) (e : Ev) : Nat → Bool
  | 0 => true
  | k + 1 => match es[k]? with
    | Option.none => true
    | some p => !beforeB e p
def okAt (g : LogM) (k : Nat) : Bool := match g.events[k]? with
  | Option.none => true
  | some e => goodB e && decide (g.floor ≤ e.time) && prevOk g.events e k
def AllOk (g : LogM) (k : Nat) : Prop := ∀ j, j < k → okAt g j = true
def validB (g : LogM) : Bool := headB g && (List.range g.events.length).all (okAt g)
theorem allOk_zero (g : LogM) : AllOk g 0 := fun _ h => absurd h (Nat.not_lt_zero _)
theorem allOk_succ {g : LogM} {k : Nat} (h : AllOk g k) (hk : okAt g k = true) : AllOk g (k + 1) := by
  intro j hj
  rcases Nat.lt_succ_iff_lt_or_eq.1 hj with h' | rfl
  · exact h j h'
  · exact hk
theorem valid_head {g : LogM} (h : headB g = false) : validB g = false := by simp [validB, h]
theorem valid_bad {g : LogM} {k : Nat} (hk : k < g.events.length) (h : okAt g k = false) : validB g = false := by
  have : (List.range g.events.length).all (okAt g) = false := by
    rw [List.all_eq_false]
    exact ⟨k, List.mem_range.2 hk, by simp [h]⟩
  simp [validB, this]
theorem valid_ok {g : LogM} (h : headB g = true) (h2 : AllOk g g.events.length) : validB g = true := by
  have : (List.range g.events.length).all (okAt g) = true := by
    rw [List.all_eq_true]
    intro k hk
    exact h2 k (List.mem_range.1 hk)
  simp [validB, h, this]
theorem head_no {g : LogM} (h : g.room < 1 ∨ 512 < g.room ∨ g.room < (g.events.length : Int) ∨ withinB g.lost 1000000000 = false ∨ withinB g.floor 1000000000 = false ∨ (g.lost = 0 ∧ g.floor ≠ 0)) : validB g = false := by
  refine valid_head ?_
  unfold headB
  rw [decide_eq_false_iff_not]
  rintro ⟨h1, h2, h3, h4, h5, h6⟩
  rcases h with h | h | h | h | h | h
  · omega
  · omega
  · omega
  · rw [h] at h4; cases h4
  · rw [h] at h5; cases h5
  · exact h6 h
theorem okAt_eq {g : LogM} {k : Nat} {e : Ev} (h : g.events[k]? = some e) : okAt g k = (goodB e && decide (g.floor ≤ e.time) && prevOk g.events e k) := by simp [okAt, h]
theorem ok_bad1 {g : LogM} {k : Nat} {e : Ev} (h : g.events[k]? = some e) (hg : goodB e = false) : okAt g k = false := by rw [okAt_eq h, hg]; rfl
theorem ok_bad2 {g : LogM} {k : Nat} {e : Ev} (h : g.events[k]? = some e) (hg : e.time < g.floor) : okAt g k = false := by
  rw [okAt_eq h]
  have : decide (g.floor ≤ e.time) = false := by simp; omega
  rw [this]; simp
theorem ok_zero {g : LogM} {e : Ev} (h : g.events[0]? = some e) (hg : goodB e = true) (ht : g.floor ≤ e.time) : okAt g 0 = true := by
  rw [okAt_eq h, hg]; simp [ht, prevOk]
theorem ok_succ {g : LogM} {k : Nat} {e p : Ev} (h : g.events[k + 1]? = some e) (hp : g.events[k]? = some p) (hg : goodB e = true) (ht : g.floor ≤ e.time) : okAt g (k + 1) = !beforeB e p := by
  rw [okAt_eq h, hg]; simp [ht, hp, prevOk]
theorem ok_pos {g : LogM} {k : Nat} {e p : Ev} (hk : 0 < k) (h : g.events[k]? = some e) (hp : g.events[k - 1]? = some p) (hg : goodB e = true) (ht : g.floor ≤ e.time) : okAt g k = !beforeB e p := by
  obtain ⟨j, rfl⟩ : ∃ j, k = j + 1 := ⟨k - 1, by omega⟩
  exact ok_succ h hp hg ht

/-- A log's box. -/
structure LB (W : World) (b : Nat) (g : LogM) (A : Option Addr) (c : Nat) : Prop where
  lt : b < W.heap.size
  c0 : W.cell? ⟨b, 0, Option.none⟩ = some (.int .i64 g.room)
  c1 : W.cell? ⟨b, 1, Option.none⟩ = some (.slice A g.events.length c)
  c2 : W.cell? ⟨b, 2, Option.none⟩ = some (.int .i64 g.lost)
  c3 : W.cell? ⟨b, 3, Option.none⟩ = some (.int .i64 g.floor)
theorem LB.below {W W' : World} {B b : Nat} {g : LogM} {A : Option Addr} {c : Nat} (h : LB W b g A c) (hb : Below B W W') (hB : b < B) : LB W' b g A c :=
  ⟨Nat.lt_of_lt_of_le h.lt hb.size, (hb.cell (p := ⟨b, 0, Option.none⟩) hB).trans h.c0, (hb.cell (p := ⟨b, 1, Option.none⟩) hB).trans h.c1, (hb.cell (p := ⟨b, 2, Option.none⟩) hB).trans h.c2, (hb.cell (p := ⟨b, 3, Option.none⟩) hB).trans h.c3⟩
theorem LB.new (w : World) (g : LogM) (A : Option Addr) (c : Nat) (t : TypeId) : LB (w.alloc (Obj.cells #[.int .i64 g.room, .slice A g.events.length c, .int .i64 g.lost, .int .i64 g.floor] t)) w.heap.size g A c :=
  ⟨by simp, by go_simp, by go_simp, by go_simp, by go_simp⟩
/-- An event's cells at a place. -/
structure EB (W : World) (b o : Nat) (e : Ev) : Prop where
  c0 : W.cell? ⟨b, o, Option.none⟩ = some (.int .i64 e.time)
  c1 : W.cell? ⟨b, o + 1, Option.none⟩ = some (.int .i64 e.device)
  c2 : W.cell? ⟨b, o + 2, Option.none⟩ = some (.int .i64 e.signal)
  c3 : W.cell? ⟨b, o + 3, Option.none⟩ = some (.bool e.value)
  c4 : W.cell? ⟨b, o + 4, Option.none⟩ = some (.int .i64 e.quality)
theorem EB.below {W W' : World} {B b o : Nat} {e : Ev} (h : EB W b o e) (hb : Below B W W') (hB : b < B) : EB W' b o e :=
  ⟨(hb.cell (p := ⟨b, o, Option.none⟩) hB).trans h.c0, (hb.cell (p := ⟨b, o + 1, Option.none⟩) hB).trans h.c1, (hb.cell (p := ⟨b, o + 2, Option.none⟩) hB).trans h.c2, (hb.cell (p := ⟨b, o + 3, Option.none⟩) hB).trans h.c3, (hb.cell (p := ⟨b, o + 4, Option.none⟩) hB).trans h.c4⟩
theorem EB.new (w : World) (e : Ev) (t : TypeId) : EB (w.alloc (Obj.cells #[.int .i64 e.time, .int .i64 e.device, .int .i64 e.signal, .bool e.value, .int .i64 e.quality] t)) w.heap.size 0 e :=
  ⟨by go_simp, by go_simp, by go_simp, by go_simp, by go_simp⟩
theorem evAt {w : World} {B n : Nat} {A : Option Addr} {es : List Ev} (h : Rws EvC 5 w B A n es) {k : Nat} (hk : k < n) : ∃ b o e, A = some ⟨b, o, Option.none⟩ ∧ b < B ∧ es[k]? = some e ∧ EB w b (o + k * 5) e := by
  obtain ⟨b, o, ds, e, hA, hb, hx, -, rfl, hat⟩ := h.at_ hk
  exact ⟨b, o, e, hA, hb, hx, hat 0 _ rfl, hat 1 _ rfl, hat 2 _ rfl, hat 3 _ rfl, hat 4 _ rfl⟩

def VdR (B : Nat) (W1 : World) (g : LogM) (i : Value) (wr : World) : Prop := ∃ k : Nat, k ≤ g.events.length ∧ i = .int .i64 k ∧ AllOk g k ∧ Below B W1 wr

set_option maxRecDepth 100000 in
set_option maxHeartbeats 4000000 in
theorem valid_any (A : Option Addr) (c B : Nat) (g : LogM) (w : World) (hB : B ≤ w.heap.size) (hr : Rws EvC 5 w B A g.events.length g.events) :
    Calls Tryd.prog 15 #[.agg #[.int .i64 g.room, .slice A g.events.length c, .int .i64 g.lost, .int .i64 g.floor]] w (RetBool (validB g) w) := by
  have LB0 := LB.new w g A c 24
  by_cases b1 : g.room < 1
  · have e0 := Lib.hid (head_no (g := g) (.inl b1))
    go_enter Tryd.func15, Tryd.ntmps15
    go_wp2
    go_ret
    exact ⟨ret_bool e0.out.symm, box_below _ _⟩
  by_cases b2 : 512 < g.room
  · have e0 := Lib.hid (head_no (g := g) (.inr (.inl b2)))
    go_enter Tryd.func15, Tryd.ntmps15
    go_wp2
    go_ret
    exact ⟨ret_bool e0.out.symm, box_below _ _⟩
  by_cases b3 : g.room < (g.events.length : Int)
  · have e0 := Lib.hid (head_no (g := g) (.inr (.inr (.inl b3))))
    go_enter Tryd.func15, Tryd.ntmps15
    go_wp2
    go_ret
    exact ⟨ret_bool e0.out.symm, box_below _ _⟩
  have C1 := fun W => within_any g.lost 1000000000 W
  have C2 := fun W => within_any g.floor 1000000000 W
  cases h4 : withinB g.lost 1000000000 with
  | false =>
    rw [h4] at C1
    have H1 := Lib.hid C1
    have e0 := Lib.hid (head_no (g := g) (.inr (.inr (.inr (.inl h4)))))
    clear C1 C2 h4
    go_enter Tryd.func15, Tryd.ntmps15
    go_wp2_with fail
    refine (H1.out _).mono ?_
    rintro e w' ⟨rfl, rfl⟩
    go_wp2
    go_ret
    exact ⟨ret_bool e0.out.symm, box_below _ _⟩
  | true =>
  rw [h4] at C1
  have H1 := Lib.hid C1
  cases h5 : withinB g.floor 1000000000 with
  | false =>
    rw [h5] at C2
    have H2 := Lib.hid C2
    have e0 := Lib.hid (head_no (g := g) (.inr (.inr (.inr (.inr (.inl h5))))))
    clear C1 C2 h4 h5
    go_enter Tryd.func15, Tryd.ntmps15
    go_wp2_with fail
    refine (H1.out _).mono ?_
    rintro e w' ⟨rfl, rfl⟩
    go_wp2_with fail
    refine (H2.out _).mono ?_
    rintro e w' ⟨rfl, rfl⟩
    go_wp2
    go_ret
    exact ⟨ret_bool e0.out.symm, box_below _ _⟩
  | true =>
  rw [h5] at C2
  have H2 := Lib.hid C2
  clear C1 C2
  by_cases b6 : g.lost = 0 ∧ g.floor ≠ 0
  · have e0 := Lib.hid (head_no (g := g) (.inr (.inr (.inr (.inr (.inr b6))))))
    have t1 : (g.lost == 0) = true := by simpa using b6.1
    have t2 : (g.floor != 0) = true := by simpa using b6.2
    clear h4 h5 b6
    go_enter Tryd.func15, Tryd.ntmps15
    go_wp2_with fail
    refine (H1.out _).mono ?_
    rintro e w' ⟨rfl, rfl⟩
    go_wp2_with fail
    refine (H2.out _).mono ?_
    rintro e w' ⟨rfl, rfl⟩
    go_wp2
    go_ret
    exact ⟨ret_bool e0.out.symm, box_below _ _⟩
  have hh : headB g = true := by unfold headB; exact decide_eq_true ⟨by omega, by omega, by omega, h4, h5, b6⟩
  have HH := Lib.hid hh
  have h6 : (g.lost == 0) = false ∨ (g.lost == 0) = true ∧ (g.floor != 0) = false := by
    by_cases e : g.lost = 0
    · right; refine ⟨by simpa using e, ?_⟩
      by_cases e2 : g.floor = 0
      · simp [e2]
      · exact absurd ⟨e, e2⟩ b6
    · left; simpa using e
  have hbox := box_below w (Obj.cells #[.int .i64 g.room, .slice A g.events.length c, .int .i64 g.lost, .int .i64 g.floor] 24)
  clear h4 h5 b6 hh
  have hlen : g.events.length ≤ 512 := by omega
  rcases h6 with t1 | ⟨t1, t2⟩
  all_goals
    go_enter Tryd.func15, Tryd.ntmps15
    go_wp2_with fail
    refine (H1.out _).mono ?_
    rintro e w' ⟨rfl, rfl⟩
    go_wp2_with fail
    refine (H2.out _).mono ?_
    rintro e w' ⟨rfl, rfl⟩
    go_wp2_with fail
    clear H1 H2
    generalize w.alloc (Obj.cells #[.int .i64 g.room, .slice A g.events.length c, .int .i64 g.lost, .int .i64 g.floor] 24) = W1 at *
    have hs1 := hbox.size
    have hl1 := LB0.lt
    go_loopw [42] (VdR W1.heap.size W1 g) (fun i _ => g.events.length - (intOf i).toNat)
    case atStart => exact ⟨0, Nat.zero_le _, rfl, allOk_zero _, Below.refl _ _⟩
    case round =>
      obtain ⟨k, hk, rfl, hall, hbel⟩ := hrel
      have HA := Lib.hid hall
      have hsz := hbel.size
      have hbw := hbox.trans (hbel.mono hs1)
      clear hall
      by_cases hlt : k < g.events.length
      · obtain ⟨b, o, x, rfl, hbB, hx, E0⟩ := evAt hr hlt
        obtain ⟨p0, p1, p2, p3, p4⟩ := E0.below (hbw.mono hB) hbB
        have HX := Lib.hid hx
        have hbel1 := hbel.alloc hsz (Obj.cells #[.int .i64 x.time, .int .i64 x.device, .int .i64 x.signal, .bool x.value, .int .i64 x.quality] 26)
        have EN := EB.new wr x 26
        have C := fun W => good_any x W
        unfold Ev.cells at C
        have hb' : b < wr.heap.size := by omega
        clear hx
        cases hg : goodB x with
        | false =>
          rw [hg] at C
          have HC := Lib.hid C
          have e0 := Lib.hid (valid_bad hlt (ok_bad1 HX.out hg))
          clear C hg E0
          go_wp2_with fail
          refine (HC.out _).mono ?_
          rintro e w3 ⟨rfl, hb3⟩
          go_wp2
          go_ret
          exact ⟨ret_bool e0.out.symm, hbox.trans ((hbel1.trans (hb3.mono (by simp; omega))).mono hs1)⟩
        | true =>
        rw [hg] at C
        have HC := Lib.hid C
        have HG := Lib.hid hg
        clear C hg E0
        go_wp2_with fail
        refine (HC.out _).mono ?_
        rintro e w3 ⟨rfl, hb3⟩
        have hbel3 := hbel1.trans (hb3.mono (by simp; omega))
        have hbw3 := hbox.trans (hbel3.mono hs1)
        have hs3 := hbel3.size
        obtain ⟨-, l0, l1, l2, l3⟩ := LB0.below hbel3 hl1
        have EN3 := EN.below hb3 (by simp)
        obtain ⟨q0, q1, q2, q3, q4⟩ := id EN3
        have hl3 : wr.heap.size < w3.heap.size := by have := hb3.size; simp only [World.size_alloc] at this; omega
        clear p0 p1 p2 p3 p4 hb3 HC
        by_cases ht : x.time < g.floor
        · have e0 := Lib.hid (valid_bad hlt (ok_bad2 HX.out ht))
          go_wp2
          go_ret
          exact ⟨ret_bool e0.out.symm, hbw3⟩
        have HT := Lib.hid (show g.floor ≤ x.time by omega)
        rcases Nat.eq_zero_or_pos k with rfl | hkp
        · have e0 := Lib.hid (ok_zero HX.out HG.out HT.out)
          go_wp2
          go_quiet (fail)
          go_wp2
          go_roundw
          case rel => exact ⟨0 + 1, by omega, by go_num, allOk_succ HA.out e0.out, below_drewN hbel3 _⟩
          case measure => simp [intOf]; omega
        · obtain ⟨b1, o1, y, hA, -, hy, F0⟩ := evAt hr (show k - 1 < g.events.length by omega)
          obtain ⟨rfl, rfl⟩ : b = b1 ∧ o = o1 := by injection hA with h; injection h with h1 h2; exact ⟨h1, h2⟩
          have FY := F0.below (hbw3.mono hB) hbB
          obtain ⟨r0, r1, r2, r3, r4⟩ := id FY
          have hok := ok_pos hkp HX.out hy HG.out HT.out
          have CB := fun W => before_any x y W
          unfold Ev.cells at CB
          generalize beforeB x y = bb at *
          have HCB := Lib.hid CB
          have HOK := Lib.hid hok
          have n0 : (0 : Int) < (k : Int) := by omega
          have n1 : ((k : Int) - 1).toNat = k - 1 := by omega
          have n2 : IntKind.i64.wrap ((k : Int) - 1) = (k : Int) - 1 := IntWalk.i64_in _ (by omega)
          have n3 : (0 : Int) ≤ (k : Int) - 1 := by omega
          have n4 : (1 : Int) ≤ (k : Int) := by omega
          have n5 : (k : Int) - 1 < (g.events.length : Int) := by omega
          have n6 : decide ((0 : Int) < (k : Int)) = true := by simpa using hkp
          have N1 := Lib.hid n1
          have N2 := Lib.hid n2
          have hb3' : b < w3.heap.size := by omega
          have hl4 : w.heap.size < w3.heap.size := by omega
          clear hA hy F0 hok CB n1 n2
          go_wp2
          have n1 := N1.out
          have n2 := N2.out
          go_region_held3 (fun w' => (w'.cell? ⟨wr.heap.size, 0, Option.none⟩ = some (.int .i64 x.time) ∧ w'.cell? ⟨wr.heap.size, 1, Option.none⟩ = some (.int .i64 x.device) ∧ w'.cell? ⟨wr.heap.size, 2, Option.none⟩ = some (.int .i64 x.signal) ∧ w'.cell? ⟨wr.heap.size, 3, Option.none⟩ = some (.bool x.value) ∧ w'.cell? ⟨wr.heap.size, 4, Option.none⟩ = some (.int .i64 x.quality)) ∧ w'.cell? ⟨w.heap.size, 1, Option.none⟩ = some (.slice (some ⟨b, o, Option.none⟩) g.events.length c) ∧
              w'.cell? ⟨b, o + (k - 1) * 5, Option.none⟩ = some (.int .i64 y.time) ∧ w'.cell? ⟨b, o + (k - 1) * 5 + 1, Option.none⟩ = some (.int .i64 y.device) ∧ w'.cell? ⟨b, o + (k - 1) * 5 + 2, Option.none⟩ = some (.int .i64 y.signal) ∧ w'.cell? ⟨b, o + (k - 1) * 5 + 3, Option.none⟩ = some (.bool y.value) ∧ w'.cell? ⟨b, o + (k - 1) * 5 + 4, Option.none⟩ = some (.int .i64 y.quality)) (first | go_keep | exact s5)
            (first
              | ((go_at_call 19; refine (HCB.out _).mono ?_; rintro e w5 ⟨rfl, hb5'⟩; have hb5 := below_same (a := w3) (B' := w3.heap.size) hb5' rfl rfl rfl rfl (Nat.le_refl _); obtain ⟨t0, t1, t2, t3, t4⟩ := EN3.below hb5 hl3; obtain ⟨v0, v1, v2, v3, v4⟩ := FY.below hb5 hb3'; have l1' := (hb5.cell (p := ⟨w.heap.size, 1, Option.none⟩) hl4).trans l1)))
          clear n1 n2
          have hbel5 := hbel3.trans (hb5.mono hs3)
          cases bb with
          | true =>
            have e0 := Lib.hid (valid_bad hlt (HOK.out.trans rfl))
            go_wp2
            go_ret
            exact ⟨ret_bool e0.out.symm, hbox.trans (hbel5.mono hs1)⟩
          | false =>
            go_wp2
            go_roundw
            case rel => exact ⟨k + 1, by omega, by go_num, allOk_succ HA.out (HOK.out.trans rfl), hbel5⟩
            case measure => simp [intOf]; omega
      · go_wp2
        go_ret
        obtain rfl : k = g.events.length := by omega
        exact ⟨ret_bool (valid_ok HH.out HA.out).symm, hbw⟩
end Go.Proofs.YtcoablindoknpaaDoor
