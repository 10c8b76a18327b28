/-
  Record of the reference, over any log and event.
-/
import Derived.Test.YtcoablindoknpaaDoorRecR
namespace Go.Proofs.YtcoablindoknpaaDoor
open Go.RowKit

theorem ret_log_rws {w W' : World} {n c : Nat} {A : Option Addr} {es : List Ev} {room lost floor x : Int} (hr : Rws EvC 5 W' W'.heap.size A n es) (hn : es.length = n) (h1 : n ≤ c) (h2 : c ≤ maxLen) (hA : A = Option.none → c = 0) (hA2 : ∀ ad, A = some ad → w.heap.size ≤ ad.block) (hb : Below w.heap.size w W') :
    RetLog ({ room := room, events := es, lost := lost, floor := floor }, x) w (.returned (.tuple #[.agg #[.int .i64 room, .slice A n c, .int .i64 lost, .int .i64 floor], .int .i64 x])) W' := by
  subst hn
  exact ⟨A, c, rfl, h1, h2, hA, hA2, hr, hb⟩
theorem rws_set {w : World} {B g j n : Nat} {A : Option Addr} {es : List Ev} {v : Value} {base : Nat} (h : Rws EvC 5 w B A n es) (hg : g < base) (hA : ∀ b o, A = some ⟨b, o, Option.none⟩ → base ≤ b) : Rws EvC 5 (w.setCell ⟨g, j, Option.none⟩ v) B A n es := by
  refine ⟨h.1, fun hn => ?_⟩
  obtain ⟨b, o, e, hlt, hr⟩ := h.2 hn
  refine ⟨b, o, e, hlt, fun k x hx => ?_⟩
  obtain ⟨cs, h1, h2, h3⟩ := hr k x hx
  refine ⟨cs, h1, h2, fun i u hu => ?_⟩
  rw [World.cell?_setCell_other _ _ _ _ (by intro he; injection he with he; have := hA b o e; omega)]
  exact h3 i u hu

set_option maxRecDepth 100000 in
set_option maxHeartbeats 4000000 in
theorem rrecord_any (A : Option Addr) (c B : Nat) (g : LogM) (e : Ev) (w : World) (hB : B ≤ w.heap.size) (hr : Rws EvC 5 w B A g.events.length g.events) (hc : g.events.length ≤ c) (hA : A = Option.none → c = 0) :
    Calls Tryd.prog 14 #[.agg #[.int .i64 g.room, .slice A g.events.length c, .int .i64 g.lost, .int .i64 g.floor], .agg e.cells.toArray] w (RetLog (recP g e) w) := by
  have R0 := RB3.new w g e A c 24 26 24
  have C1 := fun W (hb : Below w.heap.size w W) => rvalid_any A c B g W (by have := hb.size; omega) (hr.mono EvC.mono (Nat.le_refl _) (hb.mono hB))
  have C2 := fun W => rgood_any e W
  unfold Ev.cells at C2 ⊢
  have HC2 := Lib.hid C2
  have HC1 := Lib.hid C1
  clear C1 C2
  cases hv : validB g with
  | false =>
    have e0 : recP g e = (zeroLog, 1) := by simp [recP, hv]
    rw [hv] at HC1
    have E0 := Lib.hid e0
    clear hv e0
    go_enter Tryd.func14, Tryd.ntmps14
    go_wp2_with fail
    refine (HC1.out _ R0.below).mono ?_
    rintro e w4 ⟨rfl, hb4⟩
    have R4 := R0.step hb4
    obtain ⟨⟨-, r0, r1, r2, r3⟩, z0, z1, z2, z3⟩ := id R4.res
    unfold zeroLog at r0 r1 r2 r3
    dsimp only [List.length_nil] at r0 r1 r2 r3
    go_wp2
    refine bodyPost_ret (v := .tuple #[.agg #[.int .i64 0, .slice Option.none 0 0, .int .i64 0, .int .i64 0], .int .i64 1]) (by simp [results, Tryd.results14, go_sem, r0, r1, r2, r3]) rfl ?_
    rw [E0.out]
    exact ⟨Option.none, 0, rfl, Nat.le_refl _, Nat.zero_le _, fun _ => rfl, (fun _ h => by cases h), rws_none _ _ _ _ _, below_set4 R4.below _ (by omega) _ _ _ _⟩
  | true =>
  rw [hv] at HC1
  cases hg : goodB e with
  | false =>
    have e0 : recP g e = (zeroLog, 1) := by simp [recP, hg]
    rw [hg] at HC2
    have E0 := Lib.hid e0
    clear hv e0 hg
    go_enter Tryd.func14, Tryd.ntmps14
    go_wp2_with fail
    refine (HC1.out _ R0.below).mono ?_
    rintro e' w4 ⟨rfl, hb4⟩
    have R4 := R0.step hb4
    obtain ⟨q0, q1, q2, q3, q4⟩ := id R4.ev
    go_wp2_with fail
    refine (HC2.out _).mono ?_
    rintro e' w5 ⟨rfl, hb5⟩
    have R5 := R4.step hb5
    clear q0 q1 q2 q3 q4
    obtain ⟨⟨-, r0, r1, r2, r3⟩, z0, z1, z2, z3⟩ := id R5.res
    unfold zeroLog at r0 r1 r2 r3
    dsimp only [List.length_nil] at r0 r1 r2 r3
    go_wp2
    refine bodyPost_ret (v := .tuple #[.agg #[.int .i64 0, .slice Option.none 0 0, .int .i64 0, .int .i64 0], .int .i64 1]) (by simp [results, Tryd.results14, go_sem, r0, r1, r2, r3]) rfl ?_
    rw [E0.out]
    exact ⟨Option.none, 0, rfl, Nat.le_refl _, Nat.zero_le _, fun _ => rfl, (fun _ h => by cases h), rws_none _ _ _ _ _, below_set4 R5.below _ (by omega) _ _ _ _⟩
  | true =>
  rw [hg] at HC2
  have HV := Lib.hid hv
  have HG := Lib.hid hg
  clear hv hg
  go_enter Tryd.func14, Tryd.ntmps14
  go_wp2_with fail
  refine (HC1.out _ R0.below).mono ?_
  rintro e' w4 ⟨rfl, hb4⟩
  have R4 := R0.step hb4
  obtain ⟨q0, q1, q2, q3, q4⟩ := id R4.ev
  go_wp2_with fail
  refine (HC2.out _).mono ?_
  rintro e' w5 ⟨rfl, hb5⟩
  have R5 := R4.step hb5
  clear q0 q1 q2 q3 q4 hb4 hb5 R4 R0 HC1 HC2
  obtain ⟨q0, q1, q2, q3, q4⟩ := id R5.ev
  obtain ⟨⟨-, p0, p1, p2, p3⟩, y0, y1, y2, y3⟩ := id R5.log
  by_cases ht : e.time < g.floor
  · have e0 : recP g e = (zeroLog, 18) := by simp [recP, HV.out, HG.out, ht]
    have E0 := Lib.hid e0
    obtain ⟨⟨-, r0, r1, r2, r3⟩, z0, z1, z2, z3⟩ := id R5.res
    unfold zeroLog at r0 r1 r2 r3
    dsimp only [List.length_nil] at r0 r1 r2 r3
    clear e0
    go_wp2
    refine bodyPost_ret (v := .tuple #[.agg #[.int .i64 0, .slice Option.none 0 0, .int .i64 0, .int .i64 0], .int .i64 18]) (by simp [results, Tryd.results14, go_sem, r0, r1, r2, r3]) rfl ?_
    rw [E0.out]
    exact ⟨Option.none, 0, rfl, Nat.le_refl _, Nat.zero_le _, fun _ => rfl, (fun _ h => by cases h), rws_none _ _ _ _ _, below_set4 R5.below _ (by omega) _ _ _ _⟩
  have hlen : (g.events.length : Int) ≤ 512 := by
    have := HV.out
    unfold validB headB at this
    simp only [Bool.and_eq_true, decide_eq_true_eq] at this
    omega
  have hroom : 1 ≤ g.room := by
    have := HV.out
    unfold validB headB at this
    simp only [Bool.and_eq_true, decide_eq_true_eq] at this
    omega
  have C := rinsert_any A c B g.events e w5 (by have := R5.below.size; omega) (hr.mono EvC.mono (Nat.le_refl _) (R5.below.mono hB)) hc hA (by omega)
  unfold Ev.cells at C
  have HC := Lib.hid C
  have hsz5 := R5.below.size
  have hsw5 := R5.size
  clear C
  go_wp2_with fail
  refine HC.out.mono ?_
  rintro e' w6 ⟨A6, c6, rfl, hn6, hm6, hown6, hb6⟩
  have R6 := R5.step hb6
  obtain ⟨g3, c3, hv3, hg3, hlt3⟩ := hown6.form (Nat.succ_pos _)
  cases hv3
  have H3 := Lib.hid hown6
  have l1 : w.heap.size < w5.heap.size := by omega
  have l2 : w.heap.size + 1 + 1 < w5.heap.size := by omega
  have hs6 := hb6.size
  clear q0 q1 q2 q3 q4 p0 p1 p2 p3 y0 y1 y2 y3 HC hown6 hr hA
  obtain ⟨⟨hl33, p03, p13, p23, p33⟩, y03, y13, y23, y33⟩ := id R6.log
  obtain ⟨⟨r0, r1, r2, r3⟩, z0, z1, z2, z3⟩ := R6.res0
  have ne1 : ¬ g3 = w.heap.size := by omega
  have ne2 : ¬ w.heap.size = g3 := by omega
  by_cases hov : g.room < (g.events.length : Int) + 1
  · obtain ⟨x0, hx0⟩ : ∃ x0, (insE g.events e)[0]? = some x0 := ⟨_, List.getElem?_eq_getElem (by rw [insE_len]; omega)⟩
    have hrec : recP g e = ({ room := g.room, events := (insE g.events e).drop 1, lost := min (g.lost + 1) 1000000000, floor := x0.time }, 0) := by
      have : g.room < ((insE g.events e).length : Int) := by rw [insE_len]; omega
      simp [recP, HV.out, HG.out, ht, this, hx0]
    obtain ⟨b0, o0, x1, hA0, -, hx1, E1⟩ := evAt (rws_of_ev H3.out (insE_len _ _)) (show 0 < g.events.length + 1 by omega)
    cases hA0
    obtain rfl : x0 = x1 := by rw [hx0] at hx1; exact Option.some.inj hx1
    have t0 : w6.cell? ⟨g3, 0, Option.none⟩ = some (.int .i64 x0.time) := by simpa using E1.c0
    have HR := Lib.hid hrec
    have hlost : 0 ≤ g.lost ∧ g.lost ≤ 1000000000 := by
      have := HV.out
      unfold validB headB withinB at this
      simp only [Bool.and_eq_true, decide_eq_true_eq] at this
      omega
    obtain ⟨hlo, hhi⟩ := hlost
    have hc3 : 1 < c6 := by omega
    clear hrec hx0 hx1 E1
    by_cases hmin : 1000000000 < g.lost + 1
    · have hL : 1000000000 = min (g.lost + 1) 1000000000 := by omega
      have HL := Lib.hid hL
      clear hL
      go_wp2
      refine bodyPost_ret (v := .tuple #[.agg #[.int .i64 g.room, .slice (some ⟨g3, 5, Option.none⟩) g.events.length (c6 - 1), .int .i64 (1000000000), .int .i64 x0.time], .int .i64 0]) (by simp [results, Tryd.results14, go_sem, r0, r1, r2, r3]) rfl ?_
      rw [HR.out, ← HL.out]
      have hrw := rws_drop (rws_of_ev H3.out (insE_len g.events e)) 1 (by omega)
      have hba : ∀ b o, (some ⟨g3, 0 + 1 * 5, Option.none⟩ : Option Addr) = some ⟨b, o, Option.none⟩ → w5.heap.size ≤ b := fun b o h => by cases h; exact hg3
      have hfin := rws_set (j := 3) (v := .int .i64 x0.time) (rws_set (j := 2) (v := .int .i64 (1000000000)) (rws_set (j := 1) (v := .slice (some ⟨g3, 5, Option.none⟩) g.events.length (c6 - 1)) (rws_set (j := 0) (v := .int .i64 g.room) (rws_set (j := 1) (v := .slice (some ⟨g3, 5, Option.none⟩) g.events.length (c6 - 1)) (rws_set (j := 2) (v := .int .i64 (1000000000)) (rws_set (j := 3) (v := .int .i64 x0.time) (rws_set (j := 1) (v := .slice (some ⟨g3, 0, Option.none⟩) (g.events.length + 1) c6) hrw l1 hba) l1 hba) l1 hba) l1 hba) l2 hba) l2 hba) l2 hba) l2 hba
      simp only [Nat.zero_add, Nat.one_mul, Nat.add_sub_cancel] at hfin
      refine ret_log_rws (by simpa using hfin) (by rw [List.length_drop, insE_len]; omega) (by omega) (by omega) (fun h => by cases h) (fun ad h => by cases h; show w.heap.size ≤ g3; omega) (below_set4 ?_ _ (by omega) _ _ _ _)
      exact (((R6.below.setCell (p := ⟨w.heap.size, 1, Option.none⟩) (Nat.le_refl _) _).setCell (p := ⟨w.heap.size, 3, Option.none⟩) (Nat.le_refl _) _).setCell (p := ⟨w.heap.size, 2, Option.none⟩) (Nat.le_refl _) _).setCell (p := ⟨w.heap.size, 1, Option.none⟩) (Nat.le_refl _) _
    · have hL : g.lost + 1 = min (g.lost + 1) 1000000000 := by omega
      have HL := Lib.hid hL
      clear hL
      go_wp2
      refine bodyPost_ret (v := .tuple #[.agg #[.int .i64 g.room, .slice (some ⟨g3, 5, Option.none⟩) g.events.length (c6 - 1), .int .i64 (g.lost + 1), .int .i64 x0.time], .int .i64 0]) (by simp [results, Tryd.results14, go_sem, r0, r1, r2, r3]) rfl ?_
      rw [HR.out, ← HL.out]
      have hrw := rws_drop (rws_of_ev H3.out (insE_len g.events e)) 1 (by omega)
      have hba : ∀ b o, (some ⟨g3, 0 + 1 * 5, Option.none⟩ : Option Addr) = some ⟨b, o, Option.none⟩ → w5.heap.size ≤ b := fun b o h => by cases h; exact hg3
      have hfin := rws_set (j := 3) (v := .int .i64 x0.time) (rws_set (j := 2) (v := .int .i64 (g.lost + 1)) (rws_set (j := 1) (v := .slice (some ⟨g3, 5, Option.none⟩) g.events.length (c6 - 1)) (rws_set (j := 0) (v := .int .i64 g.room) (rws_set (j := 1) (v := .slice (some ⟨g3, 5, Option.none⟩) g.events.length (c6 - 1)) (rws_set (j := 2) (v := .int .i64 (g.lost + 1)) (rws_set (j := 3) (v := .int .i64 x0.time) (rws_set (j := 1) (v := .slice (some ⟨g3, 0, Option.none⟩) (g.events.length + 1) c6) hrw l1 hba) l1 hba) l1 hba) l1 hba) l2 hba) l2 hba) l2 hba) l2 hba
      simp only [Nat.zero_add, Nat.one_mul, Nat.add_sub_cancel] at hfin
      refine ret_log_rws (by simpa using hfin) (by rw [List.length_drop, insE_len]; omega) (by omega) (by omega) (fun h => by cases h) (fun ad h => by cases h; show w.heap.size ≤ g3; omega) (below_set4 ?_ _ (by omega) _ _ _ _)
      exact (((R6.below.setCell (p := ⟨w.heap.size, 1, Option.none⟩) (Nat.le_refl _) _).setCell (p := ⟨w.heap.size, 3, Option.none⟩) (Nat.le_refl _) _).setCell (p := ⟨w.heap.size, 2, Option.none⟩) (Nat.le_refl _) _).setCell (p := ⟨w.heap.size, 1, Option.none⟩) (Nat.le_refl _) _
  · have hrec : recP g e = ({ g with events := insE g.events e }, 0) := by
      have : ¬ (g.room < ((insE g.events e).length : Int)) := by rw [insE_len]; omega
      simp [recP, HV.out, HG.out, ht, this]
    have HR := Lib.hid hrec
    clear hrec
    go_wp2
    refine bodyPost_ret (v := .tuple #[.agg #[.int .i64 g.room, .slice (some ⟨g3, 0, Option.none⟩) (g.events.length + 1) c6, .int .i64 g.lost, .int .i64 g.floor], .int .i64 0]) (by simp [results, Tryd.results14, go_sem, r0, r1, r2, r3]) rfl ?_
    rw [HR.out]
    exact ret_log (own_setCell (own_setCell (own_setCell (own_setCell (own_setCell H3.out l1 _ _) l2 _ _) l2 _ _) l2 _ _) l2 _ _) (insE_len _ _) (by omega) (below_set4 (R6.below.setCell (p := ⟨w.heap.size, 1, Option.none⟩) (Nat.le_refl _) _) _ (by omega) _ _ _ _)
end Go.Proofs.YtcoablindoknpaaDoor
