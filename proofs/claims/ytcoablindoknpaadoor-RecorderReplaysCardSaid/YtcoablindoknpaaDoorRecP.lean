/-
  Record of the program, over any log and event.
-/
import Derived.Test.YtcoablindoknpaaDoorRec
import Derived.Deep.DeepCutAuto
namespace Go.Proofs.YtcoablindoknpaaDoor
open Go.RowKit

/-- A log's box that may be written. -/
structure LZ (W : World) (b : Nat) (g : LogM) (A : Option Addr) (c : Nat) : Prop extends LB W b g A c where
  z0 : W.frozen? ⟨b, 0, Option.none⟩ = false
  z1 : W.frozen? ⟨b, 1, Option.none⟩ = false
  z2 : W.frozen? ⟨b, 2, Option.none⟩ = false
  z3 : W.frozen? ⟨b, 3, Option.none⟩ = false
theorem LZ.below {W W' : World} {B b : Nat} {g : LogM} {A : Option Addr} {c : Nat} (h : LZ W b g A c) (hb : Below B W W') (hB : b < B) : LZ W' b g A c :=
  ⟨h.toLB.below hb hB, (hb.frozen (p := ⟨b, 0, Option.none⟩) hB).trans h.z0, (hb.frozen (p := ⟨b, 1, Option.none⟩) hB).trans h.z1, (hb.frozen (p := ⟨b, 2, Option.none⟩) hB).trans h.z2, (hb.frozen (p := ⟨b, 3, Option.none⟩) hB).trans h.z3⟩
theorem LZ.new (w : World) (g : LogM) (A : Option Addr) (c : Nat) (t : TypeId) : LZ (w.alloc (Obj.cells #[.int .i64 g.room, .slice A g.events.length c, .int .i64 g.lost, .int .i64 g.floor] t)) w.heap.size g A c :=
  ⟨LB.new w g A c t, by go_simp, by go_simp, by go_simp, by go_simp⟩
theorem below_set4 {B : Nat} {w w5 : World} (h : Below B w w5) (g : Nat) (hg : B ≤ g) (a b c d : Value) : Below B w ((((w5.setCell ⟨g, 0, Option.none⟩ a).setCell ⟨g, 1, Option.none⟩ b).setCell ⟨g, 2, Option.none⟩ c).setCell ⟨g, 3, Option.none⟩ d) :=
  (((h.setCell (p := ⟨g, 0, Option.none⟩) hg a).setCell (p := ⟨g, 1, Option.none⟩) hg b).setCell (p := ⟨g, 2, Option.none⟩) hg c).setCell (p := ⟨g, 3, Option.none⟩) hg d

/-- The three boxes that Record lays. -/
structure RB3 (W w : World) (g : LogM) (e : Ev) (A : Option Addr) (c : Nat) : Prop where
  below : Below w.heap.size w W
  size : w.heap.size + 1 + 1 < W.heap.size
  log : LZ W w.heap.size g A c
  ev : EB W (w.heap.size + 1) 0 e
  res : LZ W (w.heap.size + 1 + 1) zeroLog Option.none 0
theorem RB3.new (w : World) (g : LogM) (e : Ev) (A : Option Addr) (c : Nat) (t u v : TypeId) :
    RB3 (((w.alloc (Obj.cells #[.int .i64 g.room, .slice A g.events.length c, .int .i64 g.lost, .int .i64 g.floor] t)).alloc (Obj.cells #[.int .i64 e.time, .int .i64 e.device, .int .i64 e.signal, .bool e.value, .int .i64 e.quality] u)).alloc (Obj.cells #[.int .i64 0, .slice Option.none 0 0, .int .i64 0, .int .i64 0] v)) w g e A c := by
  have h1 := LZ.new w g A c t
  have b1 := box_below w (Obj.cells #[.int .i64 g.room, .slice A g.events.length c, .int .i64 g.lost, .int .i64 g.floor] t)
  have b2 := box_below (w.alloc (Obj.cells #[.int .i64 g.room, .slice A g.events.length c, .int .i64 g.lost, .int .i64 g.floor] t)) (Obj.cells #[.int .i64 e.time, .int .i64 e.device, .int .i64 e.signal, .bool e.value, .int .i64 e.quality] u)
  have h2 := EB.new (w.alloc (Obj.cells #[.int .i64 g.room, .slice A g.events.length c, .int .i64 g.lost, .int .i64 g.floor] t)) e u
  have b3 := box_below ((w.alloc (Obj.cells #[.int .i64 g.room, .slice A g.events.length c, .int .i64 g.lost, .int .i64 g.floor] t)).alloc (Obj.cells #[.int .i64 e.time, .int .i64 e.device, .int .i64 e.signal, .bool e.value, .int .i64 e.quality] u)) (Obj.cells #[.int .i64 0, .slice Option.none 0 0, .int .i64 0, .int .i64 0] v)
  have h3 := LZ.new ((w.alloc (Obj.cells #[.int .i64 g.room, .slice A g.events.length c, .int .i64 g.lost, .int .i64 g.floor] t)).alloc (Obj.cells #[.int .i64 e.time, .int .i64 e.device, .int .i64 e.signal, .bool e.value, .int .i64 e.quality] u)) zeroLog Option.none 0 v
  refine ⟨b1.trans ((b2.trans (b3.mono (by simp))).mono (by simp)), by simp, (h1.below b2 (by simp)).below b3 (by simp; omega), ?_, ?_⟩
  · have := h2.below b3 (by simp)
    simpa using this
  · simp only [World.size_alloc] at h3
    exact h3
theorem RB3.step {W W' w : World} {g : LogM} {e : Ev} {A : Option Addr} {c : Nat} (h : RB3 W w g e A c) (hb : Below W.heap.size W W') : RB3 W' w g e A c := by
  have hs := h.size
  exact ⟨h.below.trans (hb.mono h.below.size), Nat.lt_of_lt_of_le hs hb.size, h.log.below hb (by omega), h.ev.below hb (by omega), h.res.below hb (by omega)⟩

theorem RB3.res0 {W w : World} {g : LogM} {e : Ev} {A : Option Addr} {c : Nat} (h : RB3 W w g e A c) :
    (W.cell? ⟨w.heap.size + 1 + 1, 0, Option.none⟩ = some (.int .i64 0) ∧ W.cell? ⟨w.heap.size + 1 + 1, 1, Option.none⟩ = some (.slice Option.none 0 0) ∧ W.cell? ⟨w.heap.size + 1 + 1, 2, Option.none⟩ = some (.int .i64 0) ∧ W.cell? ⟨w.heap.size + 1 + 1, 3, Option.none⟩ = some (.int .i64 0)) ∧
    W.frozen? ⟨w.heap.size + 1 + 1, 0, Option.none⟩ = false ∧ W.frozen? ⟨w.heap.size + 1 + 1, 1, Option.none⟩ = false ∧ W.frozen? ⟨w.heap.size + 1 + 1, 2, Option.none⟩ = false ∧ W.frozen? ⟨w.heap.size + 1 + 1, 3, Option.none⟩ = false :=
  ⟨⟨h.res.c0, h.res.c1, h.res.c2, h.res.c3⟩, h.res.z0, h.res.z1, h.res.z2, h.res.z3⟩

theorem ret_log {w W' : World} {base n c : Nat} {t : TypeId} {A : Option Addr} {es : List Ev} {room lost floor x : Int} (hown : W'.ownsRow base t 5 (.slice A n c) n (evCells es)) (hn : es.length = n) (hbase : w.heap.size ≤ base) (hb : Below w.heap.size w W') :
    RetLog ({ room := room, events := es, lost := lost, floor := floor }, x) w (.returned (.tuple #[.agg #[.int .i64 room, .slice A n c, .int .i64 lost, .int .i64 floor], .int .i64 x])) W' := by
  subst hn
  obtain ⟨A', c', he, h1, h2⟩ := own_shape hown
  cases he
  refine ⟨A, c, rfl, h1, h2, fun hA => ?_, fun ad hA => ?_, rws_of_ev hown rfl, hb⟩
  · subst hA
    rcases hown.2 with ⟨h, _⟩ | ⟨g, cap, cur, h, _⟩
    · injection h
    · cases h
  · subst hA
    exact Nat.le_trans hbase (hown.lt ad.block rfl).1

def OwnAt (t : TypeId) (W : World) (n : Nat) (cells : List Value) (v : Value) (wx : World) : Prop := wx.ownsRow W.heap.size t 5 v n cells ∧ Below W.heap.size W wx

/-- Is the event ahead of event k - 1? -/
def AtR (w5 : World) (e : Ev) (es : List Ev) (k : Nat) (v : Value) (wx : World) : Prop :=
  ∃ bb : Bool, v = .bool bb ∧ (bb = true → 0 < k ∧ insPos e es k = insPos e es (k - 1)) ∧ (bb = false → insPos e es k = k) ∧ Below w5.heap.size w5 wx

set_option maxRecDepth 100000 in
set_option maxHeartbeats 4000000 in
theorem record_any (A : Option Addr) (c B : Nat) (g : LogM) (e : Ev) (w : World) (hB : B ≤ w.heap.size) (hr : Rws EvC 5 w B A g.events.length g.events) (hc : g.events.length ≤ c) (hA : A = Option.none → c = 0) :
    Calls Tryd.prog 13 #[.agg #[.int .i64 g.room, .slice A g.events.length c, .int .i64 g.lost, .int .i64 g.floor], .agg e.cells.toArray] w (RetLog (recP g e) w) := by
  have R0 := RB3.new w g e A c 24 26 24
  have C1 := fun W (hb : Below w.heap.size w W) => valid_any A c B g W (by have := hb.size; omega) (hr.mono EvC.mono (Nat.le_refl _) (hb.mono hB))
  have C2 := fun W => good_any e W
  unfold Ev.cells at C2 ⊢
  have HC2 := Lib.hid C2
  have HC1 := Lib.hid C1
  clear C1 C2
  cases hv : validB g with
  | false =>
    have e0 : recP g e = (zeroLog, 1) := by simp [recP, hv]
    rw [hv] at HC1
    have E0 := Lib.hid e0
    clear hv e0
    go_enter Tryd.func13, Tryd.ntmps13
    go_wp2_with fail
    refine (HC1.out _ R0.below).mono ?_
    rintro e w4 ⟨rfl, hb4⟩
    have R4 := R0.step hb4
    obtain ⟨⟨-, r0, r1, r2, r3⟩, z0, z1, z2, z3⟩ := id R4.res
    unfold zeroLog at r0 r1 r2 r3
    dsimp only [List.length_nil] at r0 r1 r2 r3
    go_wp2
    refine bodyPost_ret (v := .tuple #[.agg #[.int .i64 0, .slice Option.none 0 0, .int .i64 0, .int .i64 0], .int .i64 1]) (by simp [results, Tryd.results13, go_sem, r0, r1, r2, r3]) rfl ?_
    rw [E0.out]
    exact ⟨Option.none, 0, rfl, Nat.le_refl _, Nat.zero_le _, fun _ => rfl, (fun _ h => by cases h), rws_none _ _ _ _ _, below_set4 R4.below _ (by omega) _ _ _ _⟩
  | true =>
  rw [hv] at HC1
  cases hg : goodB e with
  | false =>
    have e0 : recP g e = (zeroLog, 1) := by simp [recP, hg]
    rw [hg] at HC2
    have E0 := Lib.hid e0
    clear hv e0 hg
    go_enter Tryd.func13, Tryd.ntmps13
    go_wp2_with fail
    refine (HC1.out _ R0.below).mono ?_
    rintro e' w4 ⟨rfl, hb4⟩
    have R4 := R0.step hb4
    obtain ⟨q0, q1, q2, q3, q4⟩ := id R4.ev
    go_wp2_with fail
    refine (HC2.out _).mono ?_
    rintro e' w5 ⟨rfl, hb5⟩
    have R5 := R4.step hb5
    clear q0 q1 q2 q3 q4
    obtain ⟨⟨-, r0, r1, r2, r3⟩, z0, z1, z2, z3⟩ := id R5.res
    unfold zeroLog at r0 r1 r2 r3
    dsimp only [List.length_nil] at r0 r1 r2 r3
    go_wp2
    refine bodyPost_ret (v := .tuple #[.agg #[.int .i64 0, .slice Option.none 0 0, .int .i64 0, .int .i64 0], .int .i64 1]) (by simp [results, Tryd.results13, go_sem, r0, r1, r2, r3]) rfl ?_
    rw [E0.out]
    exact ⟨Option.none, 0, rfl, Nat.le_refl _, Nat.zero_le _, fun _ => rfl, (fun _ h => by cases h), rws_none _ _ _ _ _, below_set4 R5.below _ (by omega) _ _ _ _⟩
  | true =>
  rw [hg] at HC2
  have HV := Lib.hid hv
  have HG := Lib.hid hg
  clear hv hg
  go_enter Tryd.func13, Tryd.ntmps13
  go_wp2_with fail
  refine (HC1.out _ R0.below).mono ?_
  rintro e' w4 ⟨rfl, hb4⟩
  have R4 := R0.step hb4
  obtain ⟨q0, q1, q2, q3, q4⟩ := id R4.ev
  go_wp2_with fail
  refine (HC2.out _).mono ?_
  rintro e' w5 ⟨rfl, hb5⟩
  have R5 := R4.step hb5
  clear q0 q1 q2 q3 q4 hb4 hb5 R4 R0 HC1 HC2
  obtain ⟨q0, q1, q2, q3, q4⟩ := id R5.ev
  obtain ⟨⟨-, p0, p1, p2, p3⟩, y0, y1, y2, y3⟩ := id R5.log
  by_cases ht : e.time < g.floor
  · have e0 : recP g e = (zeroLog, 18) := by simp [recP, HV.out, HG.out, ht]
    have E0 := Lib.hid e0
    obtain ⟨⟨-, r0, r1, r2, r3⟩, z0, z1, z2, z3⟩ := id R5.res
    unfold zeroLog at r0 r1 r2 r3
    dsimp only [List.length_nil] at r0 r1 r2 r3
    clear e0
    go_wp2
    refine bodyPost_ret (v := .tuple #[.agg #[.int .i64 0, .slice Option.none 0 0, .int .i64 0, .int .i64 0], .int .i64 18]) (by simp [results, Tryd.results13, go_sem, r0, r1, r2, r3]) rfl ?_
    rw [E0.out]
    exact ⟨Option.none, 0, rfl, Nat.le_refl _, Nat.zero_le _, fun _ => rfl, (fun _ h => by cases h), rws_none _ _ _ _ _, below_set4 R5.below _ (by omega) _ _ _ _⟩
  have hlen : (g.events.length : Int) ≤ 512 := by
    have := HV.out
    unfold validB headB at this
    simp only [Bool.and_eq_true, decide_eq_true_eq] at this
    omega
  have hroom : 1 ≤ g.room := by
    have := HV.out
    unfold validB headB at this
    simp only [Bool.and_eq_true, decide_eq_true_eq] at this
    omega
  go_wp2_with fail
  clear q0 q1 q2 q3 q4 p0 p1 p2 p3 y0 y1 y2 y3
  have hs5 := R5.below.size
  go_loopw [6] (fun i wr => ∃ k : Nat, k ≤ g.events.length ∧ i = .int .i64 k ∧ pos e g.events = insPos e g.events k ∧ Below w5.heap.size w5 wr) (fun i _ => (intOf i).toNat)
  case atStart => exact ⟨g.events.length, Nat.le_refl _, rfl, rfl, Below.refl _ _⟩
  case round =>
    obtain ⟨k, hk, rfl, hpos, hbel⟩ := hrel
    have HP := Lib.hid hpos
    have Rr := R5.step hbel
    have hsz := hbel.size
    have E0 := Rr.ev
    obtain ⟨q0, q1, q2, q3, q4⟩ := id E0
    obtain ⟨⟨hl3, p0, p1, p2, p3⟩, y0, y1, y2, y3⟩ := id Rr.log
    clear hpos
    go_upto_region 6 with fail
    go_cut [37] (AtR w5 e g.events k)
    case first =>
      rcases Nat.eq_zero_or_pos k with rfl | hkp
      · go_wp2
        go_quiet (fail)
        go_wp2_with fail
        go_meet
        exact ⟨false, rfl, (fun h => by cases h), fun _ => rfl, below_drewN hbel _⟩
      · obtain ⟨b, o, y, rfl, hbB, hy, F0⟩ := evAt hr (show k - 1 < g.events.length by omega)
        have FY := F0.below (Rr.below.mono hB) hbB
        obtain ⟨r0, r1, r2, r3, r4⟩ := id FY
        have CB := fun W => before_any e y W
        unfold Ev.cells at CB
        have hd1 := insPos_down (e := e) hkp hy
        have hd2 := insPos_stop (e := e) hkp hy
        generalize beforeB e y = bb at *
        have HCB := Lib.hid CB
        have HD1 := Lib.hid hd1
        have HD2 := Lib.hid hd2
        have n0 : (0 : Int) < (k : Int) := by omega
        have n1 : ((k : Int) - 1).toNat = k - 1 := by omega
        have n2 : IntKind.i64.wrap ((k : Int) - 1) = (k : Int) - 1 := IntWalk.i64_in _ (by omega)
        have n3 : (0 : Int) ≤ (k : Int) - 1 := by omega
        have n4 : (1 : Int) ≤ (k : Int) := by omega
        have n5 : (k : Int) - 1 < (g.events.length : Int) := by omega
        have n6 : decide ((0 : Int) < (k : Int)) = true := by simpa using hkp
        have N1 := Lib.hid n1
        have N2 := Lib.hid n2
        have hb3' : b < wr.heap.size := by omega
        have hl4 : w.heap.size + 1 < wr.heap.size := by have := Rr.size; omega
        clear hy F0 CB n1 n2 hd1 hd2
        go_wp2
        have n1 := N1.out
        have n2 := N2.out
        go_region_held3 (fun w' => (w'.cell? ⟨w.heap.size + 1, 0, Option.none⟩ = some (.int .i64 e.time) ∧ w'.cell? ⟨w.heap.size + 1, 1, Option.none⟩ = some (.int .i64 e.device) ∧ w'.cell? ⟨w.heap.size + 1, 2, Option.none⟩ = some (.int .i64 e.signal) ∧ w'.cell? ⟨w.heap.size + 1, 3, Option.none⟩ = some (.bool e.value) ∧ w'.cell? ⟨w.heap.size + 1, 4, Option.none⟩ = some (.int .i64 e.quality)) ∧ w'.cell? ⟨w.heap.size, 1, Option.none⟩ = some (.slice (some ⟨b, o, Option.none⟩) g.events.length c) ∧
            w'.cell? ⟨b, o + (k - 1) * 5, Option.none⟩ = some (.int .i64 y.time) ∧ w'.cell? ⟨b, o + (k - 1) * 5 + 1, Option.none⟩ = some (.int .i64 y.device) ∧ w'.cell? ⟨b, o + (k - 1) * 5 + 2, Option.none⟩ = some (.int .i64 y.signal) ∧ w'.cell? ⟨b, o + (k - 1) * 5 + 3, Option.none⟩ = some (.bool y.value) ∧ w'.cell? ⟨b, o + (k - 1) * 5 + 4, Option.none⟩ = some (.int .i64 y.quality)) (first | go_keep | exact s5)
          (first
            | ((go_at_call 19; refine (HCB.out _).mono ?_; rintro e' w6 ⟨rfl, hb6'⟩; have hb6 := below_same (a := wr) (B' := wr.heap.size) hb6' rfl rfl rfl rfl (Nat.le_refl _); obtain ⟨t0, t1, t2, t3, t4⟩ := E0.below hb6 hl4; obtain ⟨v0, v1, v2, v3, v4⟩ := FY.below hb6 hb3'; have l1' := (hb6.cell (p := ⟨w.heap.size, 1, Option.none⟩) hl3).trans p1)))
        clear n1 n2
        go_wp2_with fail
        go_meet
        exact ⟨bb, rfl, fun h => ⟨hkp, HD1.out h⟩, HD2.out, hbel.trans (hb6.mono hsz)⟩
    case rest =>
      obtain ⟨bb, rfl, h1, h2, hbc⟩ := hcut
      have Rc := R5.step hbc
      clear E0 q0 q1 q2 q3 q4 p0 p1 p2 p3 y0 y1 y2 y3 hl3 Rr hbel
      cases bb with
      | true =>
        obtain ⟨hkp, hd⟩ := h1 rfl
        have HD := Lib.hid hd
        clear h1 h2 hd
        have n4 : (1 : Int) ≤ (k : Int) := by omega
        go_wp2
        go_roundw
        case rel => exact ⟨k - 1, by omega, by go_num, by rw [HP.out, HD.out], hbc⟩
        case measure => simp [intOf]; omega
      | false =>
        have hpk : pos e g.events = k := by rw [HP.out, h2 rfl]
        have HK := Lib.hid hpk
        clear h1 h2 hpk HP
        obtain ⟨q0, q1, q2, q3, q4⟩ := id Rc.ev
        obtain ⟨⟨hl3, p0, p1, p2, p3⟩, y0, y1, y2, y3⟩ := id Rc.log
        obtain ⟨i0, hi, hz0, hz1, hz2⟩ := info_parts infoEv
        have k0 : (0 : Int) ≤ (k : Int) := by omega
        have k1 : (k : Int) ≤ (g.events.length : Int) := by omega
        have k2 : (k : Int) ≤ (c : Int) := by omega
        have hb0 : ∀ w0 : World, wc.grownBy w0 Option.none → Below wc.heap.size wc w0 := fun w0 hg => (Below.refl _ _).grown hg (Nat.le_refl _) (fun k hk => by cases hk)
        have HB0 := Lib.hid hb0
        clear hb0
        have hT : ∀ W, Below wc.heap.size wc W → Src W 5 A k (evCells (g.events.take k)) := fun W hb => src_take ((hr.mono EvC.mono (Nat.le_refl _) ((Rc.below.trans (hb.mono Rc.below.size)).mono hB))) hk
        have HT := Lib.hid hT
        have hAll := fun W (hb : Below wc.heap.size wc W) => hr.mono EvC.mono (Nat.le_refl _) ((Rc.below.trans (hb.mono Rc.below.size)).mono hB)
        have hCV : ∀ (v : Value) (W : World), W.ownsRow wc.heap.size 26 5 v (0 + k + 1 + (g.events.length - k)) (([] ++ evCells (g.events.take k)) ++ e.cells ++ evCells (g.events.drop k)) → W.ownsRow wc.heap.size 26 5 v (g.events.length + 1) (evCells (insE g.events e)) := fun v W h => by
          rw [insE_cells, HK.out]
          rw [show 0 + k + 1 + (g.events.length - k) = g.events.length + 1 by omega, List.nil_append] at h
          exact h
        have HCV := Lib.hid hCV
        have on1 := evCells_one (g.events.take k)
        have on2 := evCells_one (g.events.drop k)
        have on3 := ev_one e
        have m1 : 0 + k ≤ maxLen := by unfold maxLen; omega
        have m2 : (0 + k) * 40 ≤ 140737488355328 := by omega
        have m3 : 0 + k + 1 ≤ maxLen := by unfold maxLen; omega
        have m4 : (0 + k + 1) * 40 ≤ 140737488355328 := by omega
        have m5 : 0 + k + 1 + (g.events.length - k) ≤ maxLen := by unfold maxLen; omega
        have m6 : (0 + k + 1 + (g.events.length - k)) * 40 ≤ 140737488355328 := by omega
        have hsw := Rc.size
        clear hT hCV
        go_upto_region 9 with (at_make; refine wpList_make_own _ rfl _ _ 22 rfl wc.heap.size 26 i0 _ 5 Tryd.underlying22 hi hz0 hz1 .i64 .i64 _ (g.events.length + 1) rfl rfl (by omega) (by rw [hz2]; omega) (by unfold maxLen; omega) (Nat.le_refl _) ?_; intro w0 hown0 hgrow0; have hbel0 := HB0.out _ hgrow0; have Rw0 := Rc.step hbel0; clear q0 q1 q2 q3 q4 p0 p1 p2 p3 y0 y1 y2 y3 hgrow0)
        obtain ⟨wm, rfl⟩ : ∃ wm : World, wm = wc := ⟨_, rfl⟩
        go_cut [7] (OwnAt 26 wm (0 + k) ([] ++ evCells (g.events.take k)))
        case first =>
          obtain ⟨⟨hl30, p00, p10, p20, p30⟩, y00, y10, y20, y30⟩ := id Rw0.log
          have H0 := Lib.hid hown0
          clear hown0
          cases A with
          | none =>
            clear hA
            go_wp2_with (at_builtin; refine wpList_append_src (o := ⟨some 50, _, _, _, _, _⟩) _ _ 22 rfl rfl Tryd.underlying22 hi hz0 hz1 hz2 rfl (by decide) rfl H0.out hbel0 rfl (HT.out _ hbel0) on1 m1 m2 hbel0.size ?_; intro v1 w1 hown1 hbel1 hsz1)
            go_meet
            exact ⟨hown1, hbel1⟩
          | some ad =>
            go_wp2_with (at_builtin; refine wpList_append_src (o := ⟨some 50, _, _, _, _, _⟩) _ _ 22 rfl rfl Tryd.underlying22 hi hz0 hz1 hz2 rfl (by decide) rfl H0.out hbel0 rfl (HT.out _ hbel0) on1 m1 m2 hbel0.size ?_; intro v1 w1 hown1 hbel1 hsz1)
            go_meet
            exact ⟨hown1, hbel1⟩
        case rest =>
          obtain ⟨hown1, hbel1⟩ := hcut
          have Rw1 := Rc.step hbel1
          obtain ⟨q01, q11, q21, q31, q41⟩ := id Rw1.ev
          have H1 := Lib.hid hown1
          clear hown0 hown1 Rw0 hbel0
          go_upto_region 11 with (at_builtin; refine wpList_push (o := ⟨some 54, _, _, _, _, _⟩) _ _ 22 rfl rfl Tryd.underlying22 hi hz0 hz1 hz2 rfl (by decide) rfl H1.out hbel1 _ rfl rfl rfl on3 m4 m3 hbel1.size ?_; intro v2 w2 hown2 hbel2 hsz2)
          have Rw2 := Rc.step hbel2
          have H2 := Lib.hid hown2
          clear hown2 q01 q11 q21 q31 q41 H1
          obtain ⟨wn, rfl⟩ : ∃ wn : World, wn = wc := ⟨_, rfl⟩
          go_cut [7] (OwnAt 26 wm (g.events.length + 1) (evCells (insE g.events e)))
          case first =>
            obtain ⟨⟨hl32, p02, p12, p22, p32⟩, y02, y12, y22, y32⟩ := id Rw2.log
            cases A with
            | none =>
              have hn0 : g.events.length ≤ k := by have := hA rfl; omega
              have SD := Lib.hid (src_zero (A' := Option.none) (hAll _ hbel2) hn0)
              clear hAll hr hA hn0
              go_wp2_with (at_builtin; refine wpList_append_src (o := ⟨some 60, _, _, _, _, _⟩) _ _ 22 rfl rfl Tryd.underlying22 hi hz0 hz1 hz2 rfl (by decide) rfl H2.out hbel2 rfl SD.out on2 m5 m6 hbel2.size ?_; intro v3 w3 hown3 hbel3 hsz3)
              go_meet
              exact ⟨HCV.out _ _ hown3, hbel3⟩
            | some ad =>
              clear hA
              rcases Nat.eq_or_lt_of_le (show k ≤ c by omega) with hkc | hkc
              · have SD := Lib.hid (src_zero (A' := some ad) (hAll _ hbel2) (show g.events.length ≤ k by omega))
                have hge : ¬ k < c := by omega
                clear hAll hr hkc
                go_wp2_with (at_builtin; refine wpList_append_src (o := ⟨some 60, _, _, _, _, _⟩) _ _ 22 rfl rfl Tryd.underlying22 hi hz0 hz1 hz2 rfl (by decide) rfl H2.out hbel2 rfl SD.out on2 m5 m6 hbel2.size ?_; intro v3 w3 hown3 hbel3 hsz3)
                go_meet
                exact ⟨HCV.out _ _ hown3, hbel3⟩
              · have SD := Lib.hid (src_drop (hAll _ hbel2) hk)
                clear hAll hr
                go_wp2_with (at_builtin; refine wpList_append_src (o := ⟨some 60, _, _, _, _, _⟩) _ _ 22 rfl rfl Tryd.underlying22 hi hz0 hz1 hz2 rfl (by decide) rfl H2.out hbel2 rfl SD.out on2 m5 m6 hbel2.size ?_; intro v3 w3 hown3 hbel3 hsz3)
                go_meet
                exact ⟨HCV.out _ _ hown3, hbel3⟩
          case rest =>
            obtain ⟨hown3, hbel3⟩ := hcut
            have Rw3 := Rc.step hbel3
            obtain ⟨⟨hl33, p03, p13, p23, p33⟩, y03, y13, y23, y33⟩ := id Rw3.log
            obtain ⟨⟨r0, r1, r2, r3⟩, z0, z1, z2, z3⟩ := Rw3.res0
            obtain ⟨g3, c3, hv3, hg3, hlt3⟩ := hown3.form (Nat.succ_pos _)
            subst hv3
            obtain ⟨A4, c4, he4, hn3, hm3⟩ := own_shape hown3
            cases he4
            have H3 := Lib.hid hown3
            have l1 : w.heap.size < wm.heap.size := by omega
            have l2 : w.heap.size + 1 + 1 < wm.heap.size := by omega
            clear hown3 H2 HT HCV hAll hr on1 on2 on3 m1 m2 m3 m4 m5 m6 hA Rw2 Rw1
            by_cases hov : g.room < (g.events.length : Int) + 1
            · obtain ⟨x0, hx0⟩ : ∃ x0, (insE g.events e)[0]? = some x0 := ⟨_, List.getElem?_eq_getElem (by rw [insE_len]; omega)⟩
              have hrec : recP g e = ({ room := g.room, events := (insE g.events e).drop 1, lost := min (g.lost + 1) 1000000000, floor := x0.time }, 0) := by
                have : g.room < ((insE g.events e).length : Int) := by rw [insE_len]; omega
                simp [recP, HV.out, HG.out, ht, this, hx0]
              obtain ⟨b0, o0, x1, hA0, -, hx1, E1⟩ := evAt (rws_of_ev H3.out (insE_len _ _)) (show 0 < g.events.length + 1 by omega)
              cases hA0
              obtain rfl : x0 = x1 := by rw [hx0] at hx1; exact Option.some.inj hx1
              have t0 : wc.cell? ⟨g3, 0, Option.none⟩ = some (.int .i64 x0.time) := by simpa using E1.c0
              have HR := Lib.hid hrec
              have hlost : 0 ≤ g.lost ∧ g.lost ≤ 1000000000 := by
                have := HV.out
                unfold validB headB withinB at this
                simp only [Bool.and_eq_true, decide_eq_true_eq] at this
                omega
              obtain ⟨hlo, hhi⟩ := hlost
              have ne1 : ¬ g3 = w.heap.size := by omega
              have ne2 : ¬ w.heap.size = g3 := by omega
              clear hrec hx0 hx1 E1
              go_upto_region 16 with fail
              have hL : (if 1000000000 < g.lost + 1 then 1000000000 else g.lost + 1) = min (g.lost + 1) 1000000000 := by split <;> omega
              generalize (if 1000000000 < g.lost + 1 then 1000000000 else g.lost + 1) = L9 at *
              have HL := Lib.hid hL
              clear hL
              have own9 := own_setCell (own_setCell (own_setCell H3.out l1 1 (.slice (some ⟨g3, 0, Option.none⟩) (g.events.length + 1) c3)) l1 3 (.int .i64 x0.time)) l1 2 (.int .i64 L9)
              have bel9 := ((Rw3.below.setCell (p := ⟨w.heap.size, 1, Option.none⟩) (Nat.le_refl _) (.slice (some ⟨g3, 0, Option.none⟩) (g.events.length + 1) c3)).setCell (p := ⟨w.heap.size, 3, Option.none⟩) (Nat.le_refl _) (.int .i64 x0.time)).setCell (p := ⟨w.heap.size, 2, Option.none⟩) (Nat.le_refl _) (.int .i64 L9)
              have s9 : wc.heap.size ≤ (((wc.setCell ⟨w.heap.size, 1, Option.none⟩ (.slice (some ⟨g3, 0, Option.none⟩) (g.events.length + 1) c3)).setCell ⟨w.heap.size, 3, Option.none⟩ (.int .i64 x0.time)).setCell ⟨w.heap.size, 2, Option.none⟩ (.int .i64 L9)).heap.size := by simp
              have Z9 : LZ (((wc.setCell ⟨w.heap.size, 1, Option.none⟩ (.slice (some ⟨g3, 0, Option.none⟩) (g.events.length + 1) c3)).setCell ⟨w.heap.size, 3, Option.none⟩ (.int .i64 x0.time)).setCell ⟨w.heap.size, 2, Option.none⟩ (.int .i64 L9)) w.heap.size { room := g.room, events := insE g.events e, lost := L9, floor := x0.time } (some ⟨g3, 0, Option.none⟩) c3 := by
                refine ⟨⟨by simpa using hl33, by go_simp, by dsimp only; rw [insE_len]; go_simp, by go_simp, by go_simp⟩, by go_simp, by go_simp, by go_simp, by go_simp⟩
              have Q9 : LZ (((wc.setCell ⟨w.heap.size, 1, Option.none⟩ (.slice (some ⟨g3, 0, Option.none⟩) (g.events.length + 1) c3)).setCell ⟨w.heap.size, 3, Option.none⟩ (.int .i64 x0.time)).setCell ⟨w.heap.size, 2, Option.none⟩ (.int .i64 L9)) (w.heap.size + 1 + 1) zeroLog Option.none 0 := by
                refine ⟨⟨by have := Rw3.size; simpa using this, by unfold zeroLog; go_simp, by unfold zeroLog; dsimp only [List.length_nil]; go_simp, by unfold zeroLog; go_simp, by unfold zeroLog; go_simp⟩, by go_simp, by go_simp, by go_simp, by go_simp⟩
              clear p03 p13 p23 p33 y03 y13 y23 y33 r0 r1 r2 r3 z0 z1 z2 z3 t0
              generalize ((wc.setCell ⟨w.heap.size, 1, Option.none⟩ (.slice (some ⟨g3, 0, Option.none⟩) (g.events.length + 1) c3)).setCell ⟨w.heap.size, 3, Option.none⟩ (.int .i64 x0.time)).setCell ⟨w.heap.size, 2, Option.none⟩ (.int .i64 L9) = W9 at *
              have rw9 := rws_of_ev own9 (insE_len g.events e)
              have hs9 := bel9.size
              have hsz9 : w.heap.size + 1 + 1 < W9.heap.size := by have := Rw3.size; omega
              have hfin : ∀ (A5 : Option Addr) (c5 : Nat) (w5 : World), W9.heap.size ≤ w5.heap.size → w5.ownsRow W9.heap.size 26 5 (.slice A5 g.events.length c5) g.events.length (evCells ((insE g.events e).drop 1)) → Below W9.heap.size W9 w5 →
                  RetLog (recP g e) w (.returned (.tuple #[.agg #[.int .i64 g.room, .slice A5 g.events.length c5, .int .i64 L9, .int .i64 x0.time], .int .i64 0])) (((((w5.setCell ⟨w.heap.size, 1, Option.none⟩ (.slice A5 g.events.length c5)).setCell ⟨w.heap.size + 1 + 1, 0, Option.none⟩ (.int .i64 g.room)).setCell ⟨w.heap.size + 1 + 1, 1, Option.none⟩ (.slice A5 g.events.length c5)).setCell ⟨w.heap.size + 1 + 1, 2, Option.none⟩ (.int .i64 L9)).setCell ⟨w.heap.size + 1 + 1, 3, Option.none⟩ (.int .i64 x0.time)) := by
                intro A5 c5 w5 h5 ho hb
                rw [HR.out, ← HL.out]
                have l3 : w.heap.size < W9.heap.size := by omega
                exact ret_log (own_setCell (own_setCell (own_setCell (own_setCell (own_setCell ho l3 _ _) hsz9 _ _) hsz9 _ _) hsz9 _ _) hsz9 _ _) (by rw [List.length_drop, insE_len]; omega) (by omega) (below_set4 ((bel9.trans (hb.mono hs9)).setCell (p := ⟨w.heap.size, 1, Option.none⟩) (Nat.le_refl _) _) _ (by omega) _ _ _ _)
              have HFIN := Lib.hid hfin
              have n1 : g.events.length + 1 - 1 = g.events.length := by omega
              have ec := evCells_one ((insE g.events e).drop 1)
              clear hfin
              rcases Nat.eq_or_lt_of_le (show 1 ≤ c3 by omega) with hc3 | hc3
              · exfalso; omega
              · have C := clone_any (some ⟨g3, 5, Option.none⟩) (c3 - 1) g.events.length (evCells ((insE g.events e).drop 1)) W9 (by have := src_of_rws (rws_drop rw9 1 (by omega)); rw [n1] at this; simpa using this) (fun h => by cases h) ec (by omega)
                have HC := Lib.hid C
                clear C ec n1
                go_wp2_with fail
                refine HC.out.mono ?_
                rintro e' w10 ⟨A5, c5, rfl, -, -, ho5, hb5⟩
                have hs10 := hb5.size
                obtain ⟨⟨hl10, p03, p13, p23, p33⟩, y03, y13, y23, y33⟩ := Z9.below hb5 (by omega)
                obtain ⟨⟨-, r0, r1, r2, r3⟩, z0, z1, z2, z3⟩ := Q9.below hb5 hsz9
                unfold zeroLog at r0 r1 r2 r3
                dsimp only [List.length_nil] at r0 r1 r2 r3 p03 p13 p23 p33
                rw [insE_len] at p13
                have F := Lib.hid (HFIN.out A5 c5 w10 hs10 ho5 hb5)
                clear HC ho5
                go_wp2
                refine bodyPost_ret (v := .tuple #[.agg #[.int .i64 g.room, .slice A5 g.events.length c5, .int .i64 L9, .int .i64 x0.time], .int .i64 0]) (by simp [results, Tryd.results13, go_sem, r0, r1, r2, r3]) rfl ?_
                exact F.out
            · have hrec : recP g e = ({ g with events := insE g.events e }, 0) := by
                have : ¬ (g.room < ((insE g.events e).length : Int)) := by rw [insE_len]; omega
                simp [recP, HV.out, HG.out, ht, this]
              have HR := Lib.hid hrec
              clear hrec
              go_wp2
              refine bodyPost_ret (v := .tuple #[.agg #[.int .i64 g.room, .slice (some ⟨g3, 0, Option.none⟩) (g.events.length + 1) c3, .int .i64 g.lost, .int .i64 g.floor], .int .i64 0]) (by simp [results, Tryd.results13, go_sem, r0, r1, r2, r3]) rfl ?_
              rw [HR.out]
              exact ret_log (own_setCell (own_setCell (own_setCell (own_setCell (own_setCell H3.out l1 _ _) l2 _ _) l2 _ _) l2 _ _) l2 _ _) (insE_len _ _) (by omega) (below_set4 (Rw3.below.setCell (p := ⟨w.heap.size, 1, Option.none⟩) (Nat.le_refl _) _) _ (by omega) _ _ _ _)
end Go.Proofs.YtcoablindoknpaaDoor
