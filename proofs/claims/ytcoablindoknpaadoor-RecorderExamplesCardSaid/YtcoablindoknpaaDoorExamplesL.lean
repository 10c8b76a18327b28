/-
  The law RecorderExamples: the call returns true.
-/
import Derived.Test.YtcoablindoknpaaDoorLast
import Derived.Test.YtcoablindoknpaaDoorChanges
import Derived.Test.YtcoablindoknpaaDoorTextP
namespace Go.Proofs.YtcoablindoknpaaDoor
open Go.RowKit

def exA : Ev := ⟨0, 0, 0, false, 0⟩
def exB : Ev := ⟨1, 2, 3, true, 0⟩
def exG : LogM := ⟨1, [], 1, 5⟩
def exH : LogM := ⟨1, [], 0, 0⟩
def exE : Ev := ⟨4, 0, 0, false, 0⟩
def exF : Ev := ⟨-1, 0, 0, false, 0⟩
theorem ex0 : newP 0 = (zeroLog, 1) := by simp [newP]
theorem ex1 : newP 513 = (zeroLog, 1) := by simp [newP]
theorem ex2 : (recP exG exE).2 = 18 := by decide +kernel
theorem ex3 : (recP exH exF).2 = 1 := by decide +kernel
theorem ex4 : parseP [48, 32, 48, 46, 48, 32, 111, 102, 102, 10, 49, 32, 50, 46, 51, 32, 111, 110, 10] = ([exA, exB], 0, 0) := by
  have h : formatS [exA, exB] = [48, 32, 48, 46, 48, 32, 111, 102, 102, 10, 49, 32, 50, 46, 51, 32, 111, 110, 10] := by decide +kernel
  rw [← h]
  exact parse_format _ (by decide +kernel)
theorem ex5 : (parseP [48, 32, 48, 46, 48, 32, 111, 102, 102, 10, 49, 32, 50, 46, 51, 32, 111, 110]).2 = (1, 6) := by decide +kernel
theorem ex6 : (parseP [48, 49, 32, 48, 46, 48, 32, 111, 102, 102, 10]).2 = (0, 6) := by decide +kernel
theorem ex7 : (parseP [49, 32, 48, 46, 48, 32, 111, 110, 32, 63, 48, 10]).2.2 = 6 := by decide +kernel
theorem ex8 : lastP [exA, exB] 2 3 0 = (false, false) := by decide +kernel
theorem ex9 : (changesS 1 2 0 [true, true] [true, false, true]).length = 2 := by decide +kernel

set_option maxRecDepth 100000 in
set_option maxHeartbeats 4000000 in
theorem examples_any (w : World) (T : Tab w) (M : Mx w) : Calls Tryd.prog 9 #[] w (RetBool true w) := by
  have HT := Lib.hid T
  have HM := Lib.hid M
  clear T M
  have CR1 := fun W => record_any Option.none 0 0 exG exE W (Nat.zero_le _) (rws_none _ _ _ _ _) (Nat.le_refl _) (fun _ => rfl)
  have CR2 := fun W => record_any Option.none 0 0 exH exF W (Nat.zero_le _) (rws_none _ _ _ _ _) (Nat.le_refl _) (fun _ => rfl)
  have P1 := fun W hb => parse_any [48, 32, 48, 46, 48, 32, 111, 102, 102, 10, 49, 32, 50, 46, 51, 32, 111, 110, 10] (by decide) W (HT.out.below hb) (HM.out.below hb)
  have P2 := fun W hb => parse_any [48, 32, 48, 46, 48, 32, 111, 102, 102, 10, 49, 32, 50, 46, 51, 32, 111, 110] (by decide) W (HT.out.below hb) (HM.out.below hb)
  have P3 := fun W hb => parse_any [48, 49, 32, 48, 46, 48, 32, 111, 102, 102, 10] (by decide) W (HT.out.below hb) (HM.out.below hb)
  have P4 := fun W hb => parse_any [49, 32, 48, 46, 48, 32, 111, 110, 32, 63, 48, 10] (by decide) W (HT.out.below hb) (HM.out.below hb)
  rw [ex4] at P1
  have x2 := ex2
  have x3 := ex3
  have x5 := ex5
  have x6 := ex6
  have x7 := ex7
  generalize recP exG exE = p1 at *
  generalize recP exH exF = p2 at *
  generalize parseP [48, 32, 48, 46, 48, 32, 111, 102, 102, 10, 49, 32, 50, 46, 51, 32, 111, 110] = p3 at *
  generalize parseP [48, 49, 32, 48, 46, 48, 32, 111, 102, 102, 10] = p4 at *
  generalize parseP [49, 32, 48, 46, 48, 32, 111, 110, 32, 63, 48, 10] = p5 at *
  obtain ⟨g1, e1⟩ := p1
  obtain ⟨g2, e2⟩ := p2
  obtain ⟨m3, a3, e3⟩ := p3
  obtain ⟨m4, a4, e4⟩ := p4
  obtain ⟨m5, a5, e5⟩ := p5
  dsimp only at x2 x3 x5 x6 x7
  injection x5 with x5 x5'
  injection x6 with x6 x6'
  subst x2 x3 x5 x5' x6 x6' x7
  dsimp only [exG, exH, exE, exF, Ev.cells, List.length_nil] at CR1 CR2
  have HR1 := Lib.hid CR1
  have HR2 := Lib.hid CR2
  have HP1 := Lib.hid P1
  have HP2 := Lib.hid P2
  have HP3 := Lib.hid P3
  have HP4 := Lib.hid P4
  clear CR1 CR2 P1 P2 P3 P4
  go_enter Tryd.func9, Tryd.ntmps9
  go_wp2_with fail
  refine (new_any 0 w).mono ?_
  rw [ex0]
  rintro e w1 ⟨A1, c1, rfl, -, -, -, -, -, hb1⟩
  dsimp only [zeroLog, List.length_nil]
  have h1 := hb1.trans ((box_below w1 (Obj.cells #[.int .i64 0, .slice A1 0 c1, .int .i64 0, .int .i64 0] 24)).mono hb1.size)
  go_wp2_with fail
  refine (new_any 513 _).mono ?_
  rw [ex1]
  rintro e w2 ⟨A2, c2, rfl, -, -, -, -, -, hb2⟩
  dsimp only [zeroLog, List.length_nil]
  have h2 := h1.trans (hb2.mono h1.size)
  have h2x := h2.trans ((box_below w2 (Obj.cells #[.int .i64 0, .slice A2 0 c2, .int .i64 0, .int .i64 0] 24)).mono h2.size)
  go_wp2_with fail
  refine (HR1.out _).mono ?_
  rintro e w3 ⟨A3, c3, rfl, -, -, -, -, -, hb3⟩
  have h3 := h2x.trans (hb3.mono h2x.size)
  have h3x := h3.trans ((box_below w3 (Obj.cells #[.int .i64 g1.room, .slice A3 g1.events.length c3, .int .i64 g1.lost, .int .i64 g1.floor] 24)).mono h3.size)
  go_wp2_with fail
  refine (HR2.out _).mono ?_
  rintro e w4 ⟨A4, c4, rfl, -, -, -, -, -, hb4⟩
  have h4 := h3x.trans (hb4.mono h3x.size)
  have h4x := h4.trans ((box_below w4 (Obj.cells #[.int .i64 g2.room, .slice A4 g2.events.length c4, .int .i64 g2.lost, .int .i64 g2.floor] 24)).mono h4.size)
  go_wp2_with fail
  refine (HP1.out _ h4x).mono ?_
  rintro e w5 ⟨A5, c5, rfl, hc5, hm5, hr5, hb5⟩
  dsimp only [List.length_cons, List.length_nil] at hc5 ⊢
  have h5 := h4x.trans (hb5.mono h4x.size)
  go_wp2_with fail
  refine (HP2.out _ h5).mono ?_
  rintro e w6 ⟨A6, c6, rfl, -, -, -, hb6⟩
  have h6 := h5.trans (hb6.mono h5.size)
  go_wp2_with fail
  refine (HP3.out _ h6).mono ?_
  rintro e w7 ⟨A7, c7, rfl, -, -, -, hb7⟩
  have h7 := h6.trans (hb7.mono h6.size)
  go_wp2_with fail
  refine (HP4.out _ h7).mono ?_
  rintro e w8 ⟨A8, c8, rfl, -, -, -, hb8⟩
  have h8 := h7.trans (hb8.mono h7.size)
  have hb58 := hb6.trans ((hb7.trans (hb8.mono hb7.size)).mono hb6.size)
  have CL := last_any A5 c5 w5.heap.size [exA, exB] 2 3 0 w8 hb58.size (hr5.mono EvC.mono (Nat.le_refl _) hb58) (by decide)
  rw [ex8] at CL
  dsimp only [List.length_cons, List.length_nil] at CL
  have HCL := Lib.hid CL
  clear CL hr5
  go_wp2_with fail
  refine HCL.out.mono ?_
  rintro e w9 ⟨rfl, hb9⟩
  have h9 := h8.trans (hb9.mono h8.size)
  go_wp2_with fail
  refine (known_any _ (HT.out.below h9)).mono ?_
  rintro e w10 ⟨rfl, hb10⟩
  have h10 := h9.trans (hb10.mono h9.size)
  have r1 := rws_lit (R := BoolC) (size := 1) w10 4 #[.bool true, .bool true] [true, true] (fun b => [.bool b]) rfl (fun _ _ => rfl) (fun _ _ _ _ => rfl) (by simp [maxLen])
  have hx1 := box_below w10 (Obj.cells #[.bool true, .bool true] 4)
  have r2 := rws_lit (R := BoolC) (size := 1) (w10.alloc (Obj.cells #[.bool true, .bool true] 4)) 4 #[.bool true, .bool false, .bool true] [true, false, true] (fun b => [.bool b]) rfl (fun _ _ => rfl) (fun _ _ _ _ => rfl) (by simp [maxLen])
  have hx2 := box_below (w10.alloc (Obj.cells #[.bool true, .bool true] 4)) (Obj.cells #[.bool true, .bool false, .bool true] 4)
  have hxx := hx1.trans (hx2.mono hx1.size)
  have r1' := r1.mono BoolC.mono (B' := w10.heap.size + 1 + 1) (Nat.le_succ _) (hx2.mono (by simp))
  rw [World.size_alloc] at r2
  have CC := changes_any 1 2 0 _ _ 2 3 (w10.heap.size + 1 + 1) [true, true] [true, false, true] _ (by simp) r1' r2 (by simp [maxLen]) (by simp [maxLen])
  rw [ex9] at CC
  dsimp only [List.length_cons, List.length_nil] at CC
  have HCC := Lib.hid CC
  clear CC r1 r2 r1'
  have h11 := h10.trans (hxx.mono h10.size)
  go_wp2_with fail
  refine HCC.out.mono ?_
  rintro e w12 ⟨A12, c12, rfl, -, -, -, hb12⟩
  go_wp2
  go_ret
  exact ⟨rfl, h11.trans (hb12.mono h11.size)⟩
end Go.Proofs.YtcoablindoknpaaDoor
