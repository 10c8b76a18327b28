/-
  The laws' sanity check, and what they share: New, few, Same, SameLog.
-/
import Derived.Test.YtcoablindoknpaaDoorRecS
import Derived.Test.YtcoablindoknpaaDoorFormat
namespace Go.Proofs.YtcoablindoknpaaDoor
open Go.RowKit

def newP (room : Int) : LogM × Int := if room < 1 ∨ 512 < room then (zeroLog, 1) else ({ room := room, events := [], lost := 0, floor := 0 }, 0)

set_option maxHeartbeats 1000000 in
theorem new_any (room : Int) (w : World) : Calls Tryd.prog 22 #[.int .i64 room] w (RetLog (newP room) w) := by
  by_cases h1 : room < 1
  · have e0 : newP room = (zeroLog, 1) := by simp [newP, h1]
    have E0 := Lib.hid e0
    clear e0
    go_enter Tryd.func22, Tryd.ntmps22
    go_wp2
    refine bodyPost_ret (v := .tuple #[.agg #[.int .i64 0, .slice Option.none 0 0, .int .i64 0, .int .i64 0], .int .i64 1]) (by simp [results, Tryd.results22, go_sem]) rfl ?_
    rw [E0.out]
    exact ⟨Option.none, 0, rfl, Nat.le_refl _, Nat.zero_le _, fun _ => rfl, (fun _ h => by cases h), rws_none _ _ _ _ _, box_below _ _⟩
  by_cases h2 : 512 < room
  · have e0 : newP room = (zeroLog, 1) := by simp [newP, h2]
    have E0 := Lib.hid e0
    clear e0
    go_enter Tryd.func22, Tryd.ntmps22
    go_wp2
    refine bodyPost_ret (v := .tuple #[.agg #[.int .i64 0, .slice Option.none 0 0, .int .i64 0, .int .i64 0], .int .i64 1]) (by simp [results, Tryd.results22, go_sem]) rfl ?_
    rw [E0.out]
    exact ⟨Option.none, 0, rfl, Nat.le_refl _, Nat.zero_le _, fun _ => rfl, (fun _ h => by cases h), rws_none _ _ _ _ _, box_below _ _⟩
  · have e0 : newP room = ({ room := room, events := [], lost := 0, floor := 0 }, 0) := by simp [newP, h1, h2]
    have E0 := Lib.hid e0
    clear e0
    go_enter Tryd.func22, Tryd.ntmps22
    go_wp2
    refine bodyPost_ret (v := .tuple #[.agg #[.int .i64 room, .slice Option.none 0 0, .int .i64 0, .int .i64 0], .int .i64 0]) (by simp [results, Tryd.results22, go_sem]) rfl ?_
    rw [E0.out]
    exact ⟨Option.none, 0, rfl, Nat.le_refl _, Nat.zero_le _, fun _ => rfl, (fun _ h => by cases h), rws_none _ _ _ _ _, box_below _ _⟩

theorem few_any (A : Option Addr) (c n : Nat) (w : World) (hn : n ≤ maxLen) : Calls Tryd.prog 11 #[.slice A n c] w fun e w' => e = .returned (.bool (decide (n ≤ 60))) ∧ w = w' := by
  unfold maxLen at hn
  go_enter Tryd.func11, Tryd.ntmps11
  go_wp2
  go_ret
  exact ⟨ret_bool (by rw [Bool.eq_iff_iff]; simp; omega), rfl⟩

set_option maxRecDepth 100000 in
set_option maxHeartbeats 2000000 in
theorem same_quiet (A1 A2 : Option Addr) (B1 B2 c1 c2 : Nat) (es : List Ev) (w : World) (h1 : Rws EvC 5 w B1 A1 es.length es) (h2 : Rws EvC 5 w B2 A2 es.length es) (hn : es.length ≤ maxLen) :
    Calls Tryd.prog 24 #[.slice A1 es.length c1, .slice A2 es.length c2] w fun e w' => e = .returned (.bool true) ∧ ∃ k, w' = w.drewN k := by
  unfold maxLen at hn
  have hl : ((es.length : Int) != (es.length : Int)) = false := by simp
  go_enter Tryd.func24, Tryd.ntmps24
  go_wp2
  go_loopw [13] (fun i wr => ∃ k : Nat, k ≤ es.length ∧ i = .int .i64 k ∧ ∃ d, wr = w.drewN d) (fun i _ => es.length - (intOf i).toNat)
  case atStart => exact ⟨0, Nat.zero_le _, rfl, 0, rfl⟩
  case round =>
    obtain ⟨k, hk, rfl, d, rfl⟩ := hrel
    by_cases hlt : k < es.length
    · obtain ⟨b1, o1, x, rfl, -, hx1, ⟨p0, p1, p2, p3, p4⟩⟩ := evAt h1 hlt
      obtain ⟨b2, o2, y, rfl, -, hx2, ⟨q0, q1, q2, q3, q4⟩⟩ := evAt h2 hlt
      obtain rfl : x = y := by rw [hx1] at hx2; exact Option.some.inj hx2
      clear hx1 hx2 h1 h2
      have hk0 : (0 : Int) ≤ (k : Int) := by omega
      have hkn : (k : Int) < (es.length : Int) := by omega
      go_wp2
      go_quiet (fail)
      go_wp2
      go_roundw
      case rel => exact ⟨k + 1, by omega, by go_num, _, rfl⟩
      case measure => simp [intOf]; omega
    · go_wp2
      go_ret
      exact ⟨rfl, d, rfl⟩
theorem same_any (A1 A2 : Option Addr) (B1 B2 c1 c2 : Nat) (es : List Ev) (w : World) (h1 : Rws EvC 5 w B1 A1 es.length es) (h2 : Rws EvC 5 w B2 A2 es.length es) (hn : es.length ≤ maxLen) :
    Calls Tryd.prog 24 #[.slice A1 es.length c1, .slice A2 es.length c2] w (RetBool true w) :=
  (same_quiet A1 A2 B1 B2 c1 c2 es w h1 h2 hn).mono fun _ _ ⟨he, k, hw⟩ => ⟨he, by subst hw; exact below_drewN (Below.refl _ _) k⟩

set_option maxRecDepth 100000 in
theorem sameLog_any (A1 A2 : Option Addr) (B1 B2 c1 c2 : Nat) (g : LogM) (w : World) (hB1 : B1 ≤ w.heap.size) (hB2 : B2 ≤ w.heap.size) (h1 : Rws EvC 5 w B1 A1 g.events.length g.events) (h2 : Rws EvC 5 w B2 A2 g.events.length g.events) (hn : g.events.length ≤ maxLen) :
    Calls Tryd.prog 21 #[.agg #[.int .i64 g.room, .slice A1 g.events.length c1, .int .i64 g.lost, .int .i64 g.floor], .agg #[.int .i64 g.room, .slice A2 g.events.length c2, .int .i64 g.lost, .int .i64 g.floor]] w (RetBool true w) := by
  have hb := (box_below w (Obj.cells #[.int .i64 g.room, .slice A1 g.events.length c1, .int .i64 g.lost, .int .i64 g.floor] 24)).alloc (by simp) (Obj.cells #[.int .i64 g.room, .slice A2 g.events.length c2, .int .i64 g.lost, .int .i64 g.floor] 24)
  have C := same_any A1 A2 B1 B2 c1 c2 g.events _ (h1.mono EvC.mono (Nat.le_refl _) (hb.mono hB1)) (h2.mono EvC.mono (Nat.le_refl _) (hb.mono hB2)) hn
  have HC := Lib.hid C
  clear C h1 h2
  go_enter Tryd.func21, Tryd.ntmps21
  go_wp2_with fail
  refine HC.out.mono ?_
  rintro e w3 ⟨rfl, hb3⟩
  go_wp2
  go_ret
  exact ⟨rfl, hb.trans (hb3.mono (by simp; omega))⟩

def ev5 : Ev := ⟨5, 0, 0, false, 0⟩
def ev9 : Ev := ⟨9, 0, 0, false, 0⟩
def ev7 : Ev := ⟨7, 2, 0, true, 1⟩
def log0 : LogM := ⟨1, [], 0, 0⟩
def log1 : LogM := ⟨1, [ev5], 0, 0⟩
def log2 : LogM := ⟨1, [ev9], 1, 5⟩
theorem known0 : newP 1 = (log0, 0) := by rfl
theorem known1 : recP log0 ev5 = (log1, 0) := by rfl
theorem known2 : recP log1 ev9 = (log2, 0) := by rfl
theorem known3 : formatS [ev7] = [55, 32, 50, 46, 48, 32, 111, 110, 32, 63, 49, 10] := by decide +kernel

set_option maxRecDepth 100000 in
set_option maxHeartbeats 400000 in
theorem known_any (w : World) (T : Tab w) : Calls Tryd.prog 12 #[] w (RetBool true w) := by
  have HT := Lib.hid T
  clear T
  go_enter Tryd.func12, Tryd.ntmps12
  go_wp2_with fail
  refine (new_any 1 w).mono ?_
  rw [known0]
  rintro e w1 ⟨A1, c1, he, hc1, hm1, hA1, hN1, hr1, hb1⟩
  dsimp only [log0, List.length_nil] at he
  subst he
  have Z1 : LZ (w1.alloc (Obj.cells #[.int .i64 1, .slice A1 0 c1, .int .i64 0, .int .i64 0] 24)) w1.heap.size log0 A1 c1 := LZ.new w1 log0 A1 c1 24
  have hbx := box_below w1 (Obj.cells #[.int .i64 1, .slice A1 0 c1, .int .i64 0, .int .i64 0] 24)
  have hs1 := hb1.size
  have hb1x := hb1.trans (hbx.mono hs1)
  have C := record_any A1 c1 w1.heap.size log0 ev5 (w1.alloc (Obj.cells #[.int .i64 1, .slice A1 0 c1, .int .i64 0, .int .i64 0] 24)) (by simp) (hr1.mono EvC.mono (Nat.le_refl _) hbx) hc1 hA1
  rw [known1] at C
  have HC := Lib.hid C
  clear C hr1 hc1 hm1 hA1 hN1
  go_wp2_with fail
  refine HC.out.mono ?_
  rintro e w2 ⟨A2, c2, he, hc2, hm2, hA2, hN2, hr2, hb2⟩
  dsimp only [log1, List.length_cons, List.length_nil] at he
  subst he
  have Z2 := Z1.below hb2 (by simp)
  have hb2x := hb1x.trans (hb2.mono hb1x.size)
  obtain ⟨⟨hl2, p0, p1, p2, p3⟩, y0, y1, y2, y3⟩ := id Z2
  dsimp only [log0, List.length_nil] at p0 p1 p2 p3
  have hs2 := hb2.size
  simp only [World.size_alloc] at hs2
  have hN2' : ∀ b o, A2 = some ⟨b, o, Option.none⟩ → w1.heap.size + 1 ≤ b := fun b o h => by have := hN2 _ h; simpa using this
  have hr3 := rws_set (g := w1.heap.size) (base := w1.heap.size + 1) (j := 3) (v := .int .i64 0) (rws_set (g := w1.heap.size) (base := w1.heap.size + 1) (j := 2) (v := .int .i64 0) (rws_set (g := w1.heap.size) (base := w1.heap.size + 1) (j := 1) (v := .slice A2 1 c2) (rws_set (g := w1.heap.size) (base := w1.heap.size + 1) (j := 0) (v := .int .i64 1) hr2 (Nat.lt_succ_self _) hN2') (Nat.lt_succ_self _) hN2') (Nat.lt_succ_self _) hN2') (Nat.lt_succ_self _) hN2'
  have bel3 := below_set4 hb2x w1.heap.size hs1 (.int .i64 1) (.slice A2 1 c2) (.int .i64 0) (.int .i64 0)
  have Z3 : LZ ((((w2.setCell ⟨w1.heap.size, 0, Option.none⟩ (.int .i64 1)).setCell ⟨w1.heap.size, 1, Option.none⟩ (.slice A2 1 c2)).setCell ⟨w1.heap.size, 2, Option.none⟩ (.int .i64 0)).setCell ⟨w1.heap.size, 3, Option.none⟩ (.int .i64 0)) w1.heap.size log1 A2 c2 :=
    ⟨⟨by simpa using hl2, by go_simp; rfl, by go_simp; rfl, by go_simp; rfl, by go_simp; rfl⟩, by go_simp, by go_simp, by go_simp, by go_simp⟩
  have hsz3 : ((((w2.setCell ⟨w1.heap.size, 0, Option.none⟩ (.int .i64 1)).setCell ⟨w1.heap.size, 1, Option.none⟩ (.slice A2 1 c2)).setCell ⟨w1.heap.size, 2, Option.none⟩ (.int .i64 0)).setCell ⟨w1.heap.size, 3, Option.none⟩ (.int .i64 0)).heap.size = w2.heap.size := by simp
  have C := record_any A2 c2 w2.heap.size log1 ev9 ((((w2.setCell ⟨w1.heap.size, 0, Option.none⟩ (.int .i64 1)).setCell ⟨w1.heap.size, 1, Option.none⟩ (.slice A2 1 c2)).setCell ⟨w1.heap.size, 2, Option.none⟩ (.int .i64 0)).setCell ⟨w1.heap.size, 3, Option.none⟩ (.int .i64 0)) (by rw [hsz3]; exact Nat.le_refl _) hr3 hc2 hA2
  rw [known2] at C
  have HC2 := Lib.hid C
  have HZ3 := Lib.hid Z3
  clear C hr3 hr2 HC Z1 Z2 Z3 hA2 hN2 hN2'
  go_wp2_with fail
  generalize hW3 : ((((w2.setCell ⟨w1.heap.size, 0, Option.none⟩ (.int .i64 1)).setCell ⟨w1.heap.size, 1, Option.none⟩ (.slice A2 1 c2)).setCell ⟨w1.heap.size, 2, Option.none⟩ (.int .i64 0)).setCell ⟨w1.heap.size, 3, Option.none⟩ (.int .i64 0)) = W3 at *
  clear hW3
  refine HC2.out.mono ?_
  rintro e w4 ⟨A4, c4, he, -, -, -, -, -, hb4⟩
  dsimp only [log2, List.length_cons, List.length_nil] at he
  subst he
  have hl3 := HZ3.out.lt
  obtain ⟨⟨hl4, p0', p1', p2', p3'⟩, y0', y1', y2', y3'⟩ := HZ3.out.below hb4 hl3
  dsimp only [log1, List.length_cons, List.length_nil] at p0' p1' p2' p3'
  have hb4x := bel3.trans (hb4.mono bel3.size)
  have bel5 := below_set4 hb4x w1.heap.size hs1 (.int .i64 1) (.slice A4 1 c4) (.int .i64 1) (.int .i64 5)
  have hr5 := rws_lit (R := EvC) (size := 5) ((((w4.setCell ⟨w1.heap.size, 0, Option.none⟩ (.int .i64 1)).setCell ⟨w1.heap.size, 1, Option.none⟩ (.slice A4 1 c4)).setCell ⟨w1.heap.size, 2, Option.none⟩ (.int .i64 1)).setCell ⟨w1.heap.size, 3, Option.none⟩ (.int .i64 5)) 26 #[.int .i64 7, .int .i64 2, .int .i64 0, .bool true, .int .i64 1] [ev7] Ev.cells rfl (fun _ _ => rfl) (fun _ _ _ _ => rfl) (by simp [maxLen])
  have bel6 := bel5.alloc bel5.size (Obj.cells #[.int .i64 7, .int .i64 2, .int .i64 0, .bool true, .int .i64 1] 26)
  have C := format_any _ 1 _ [ev7] _ (HT.out.below bel6) (by simp) hr5 (by simp)
  rw [known3] at C
  have hsz5 : ((((w4.setCell ⟨w1.heap.size, 0, Option.none⟩ (.int .i64 1)).setCell ⟨w1.heap.size, 1, Option.none⟩ (.slice A4 1 c4)).setCell ⟨w1.heap.size, 2, Option.none⟩ (.int .i64 1)).setCell ⟨w1.heap.size, 3, Option.none⟩ (.int .i64 5)).heap.size = w4.heap.size := by simp
  rw [hsz5] at C
  dsimp only [List.length_cons, List.length_nil] at C
  have HC3 := Lib.hid C
  have hs6 := bel6.size
  clear C hr5 HC2 HZ3 p0 p1 p2 p3 y0 y1 y2 y3
  go_wp2_with fail
  refine HC3.out.mono ?_
  rintro e w7 ⟨rfl, hb7⟩
  go_wp2
  go_ret
  exact ⟨rfl, bel6.trans (hb7.mono hs6)⟩
end Go.Proofs.YtcoablindoknpaaDoor
