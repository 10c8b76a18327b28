/-
  The law RecorderRecords: Good, Before, Valid and Record return what is specified for arbitrary logs and events.
-/
import Derived.Test.YtcoablindoknpaaDoorKnown
namespace Go.Proofs.YtcoablindoknpaaDoor
open Go.RowKit

/-- The cells of a log and of an event. -/
def LE (w' : World) (b : Nat) (g : LogM) (A : Option Addr) (c : Nat) (d o : Nat) (e : Ev) : Prop :=
  (w'.cell? ⟨b, 0, Option.none⟩ = some (.int .i64 g.room) ∧ w'.cell? ⟨b, 1, Option.none⟩ = some (.slice A g.events.length c) ∧ w'.cell? ⟨b, 2, Option.none⟩ = some (.int .i64 g.lost) ∧ w'.cell? ⟨b, 3, Option.none⟩ = some (.int .i64 g.floor)) ∧
  w'.cell? ⟨d, o, Option.none⟩ = some (.int .i64 e.time) ∧ w'.cell? ⟨d, o + 1, Option.none⟩ = some (.int .i64 e.device) ∧ w'.cell? ⟨d, o + 2, Option.none⟩ = some (.int .i64 e.signal) ∧ w'.cell? ⟨d, o + 3, Option.none⟩ = some (.bool e.value) ∧ w'.cell? ⟨d, o + 4, Option.none⟩ = some (.int .i64 e.quality)
theorem LE.of {w' : World} {b : Nat} {g : LogM} {A : Option Addr} {c d o : Nat} {e : Ev} (h1 : LB w' b g A c) (h2 : EB w' d o e) : LE w' b g A c d o e := ⟨⟨h1.c0, h1.c1, h1.c2, h1.c3⟩, h2.c0, h2.c1, h2.c2, h2.c3, h2.c4⟩
def EE (w' : World) (d o : Nat) (e : Ev) (d2 o2 : Nat) (f : Ev) : Prop :=
  (w'.cell? ⟨d, o, Option.none⟩ = some (.int .i64 e.time) ∧ w'.cell? ⟨d, o + 1, Option.none⟩ = some (.int .i64 e.device) ∧ w'.cell? ⟨d, o + 2, Option.none⟩ = some (.int .i64 e.signal) ∧ w'.cell? ⟨d, o + 3, Option.none⟩ = some (.bool e.value) ∧ w'.cell? ⟨d, o + 4, Option.none⟩ = some (.int .i64 e.quality)) ∧
  w'.cell? ⟨d2, o2, Option.none⟩ = some (.int .i64 f.time) ∧ w'.cell? ⟨d2, o2 + 1, Option.none⟩ = some (.int .i64 f.device) ∧ w'.cell? ⟨d2, o2 + 2, Option.none⟩ = some (.int .i64 f.signal) ∧ w'.cell? ⟨d2, o2 + 3, Option.none⟩ = some (.bool f.value) ∧ w'.cell? ⟨d2, o2 + 4, Option.none⟩ = some (.int .i64 f.quality)
theorem EE.of {w' : World} {d o : Nat} {e : Ev} {d2 o2 : Nat} {f : Ev} (h1 : EB w' d o e) (h2 : EB w' d2 o2 f) : EE w' d o e d2 o2 f := ⟨⟨h1.c0, h1.c1, h1.c2, h1.c3, h1.c4⟩, h2.c0, h2.c1, h2.c2, h2.c3, h2.c4⟩

set_option maxRecDepth 100000 in
set_option maxHeartbeats 4000000 in
theorem records_any (A : Option Addr) (c B : Nat) (g : LogM) (e : Ev) (w : World) (T : Tab w) (hB : B ≤ w.heap.size) (hr : Rws EvC 5 w B A g.events.length g.events) (hc : g.events.length ≤ c) (hm : c ≤ maxLen) (hA : A = Option.none → c = 0) :
    Calls Tryd.prog 3 #[.agg #[.int .i64 g.room, .slice A g.events.length c, .int .i64 g.lost, .int .i64 g.floor], .agg e.cells.toArray] w (RetBool true w) := by
  have HT := Lib.hid T
  have HR := Lib.hid hr
  clear T hr
  have LB0 := LB.new w g A c 24
  have hb0 := box_below w (Obj.cells #[.int .i64 g.room, .slice A g.events.length c, .int .i64 g.lost, .int .i64 g.floor] 24)
  have hb1 := box_below (w.alloc (Obj.cells #[.int .i64 g.room, .slice A g.events.length c, .int .i64 g.lost, .int .i64 g.floor] 24)) (Obj.cells #[.int .i64 e.time, .int .i64 e.device, .int .i64 e.signal, .bool e.value, .int .i64 e.quality] 26)
  have LB1 := LB0.below hb1 (by simp)
  have EB1 := EB.new (w.alloc (Obj.cells #[.int .i64 g.room, .slice A g.events.length c, .int .i64 g.lost, .int .i64 g.floor] 24)) e 26
  have hw1 := hb0.trans (hb1.mono (by simp))
  have hs1 : w.heap.size + 1 < ((w.alloc (Obj.cells #[.int .i64 g.room, .slice A g.events.length c, .int .i64 g.lost, .int .i64 g.floor] 24)).alloc (Obj.cells #[.int .i64 e.time, .int .i64 e.device, .int .i64 e.signal, .bool e.value, .int .i64 e.quality] 26)).heap.size := by simp
  rw [World.size_alloc] at EB1
  unfold Ev.cells
  go_enter Tryd.func3, Tryd.ntmps3
  go_wp2_with fail
  refine (few_any A c g.events.length _ (by omega)).mono ?_
  rintro e' w2 ⟨rfl, rfl⟩
  generalize (w.alloc (Obj.cells #[.int .i64 g.room, .slice A g.events.length c, .int .i64 g.lost, .int .i64 g.floor] 24)).alloc (Obj.cells #[.int .i64 e.time, .int .i64 e.device, .int .i64 e.signal, .bool e.value, .int .i64 e.quality] 26) = W1 at *
  have hz1 := hw1.size
  clear LB0 hb0 hb1
  by_cases hfew : g.events.length ≤ 60
  case neg =>
    have d0 : decide (g.events.length ≤ 60) = false := by simpa using hfew
    go_wp2_with fail
    refine (known_any _ (HT.out.below hw1)).mono ?_
    rintro e' w3 ⟨rfl, hb3⟩
    go_wp2
    go_ret
    exact ⟨rfl, hw1.trans (hb3.mono hz1)⟩
  have d0 : decide (g.events.length ≤ 60) = true := by simpa using hfew
  obtain ⟨hl1, p0, p1, p2, p3⟩ := id LB1
  obtain ⟨q0, q1, q2, q3, q4⟩ := id EB1
  have C1 := record_any A c B g e W1 (by omega) (HR.out.mono EvC.mono (Nat.le_refl _) (hw1.mono hB)) hc hA
  unfold Ev.cells at C1
  have HC1 := Lib.hid C1
  clear C1
  go_wp2_with fail
  refine HC1.out.mono ?_
  generalize hp : recP g e = p at *
  have HP := Lib.hid hp
  clear hp
  rintro e' w3 ⟨A3, c3, rfl, hc3, hm3, -, -, hr3, hb3⟩
  have hw3 := hw1.trans (hb3.mono hz1)
  have LBa := LB.new w3 p.1 A3 c3 24
  have hb3x := box_below w3 (Obj.cells #[.int .i64 p.1.room, .slice A3 p.1.events.length c3, .int .i64 p.1.lost, .int .i64 p.1.floor] 24)
  have hb13 := hb3.trans (hb3x.mono hb3.size)
  have hw3x := hw1.trans (hb13.mono hz1)
  have HR3 := Lib.hid (hr3.mono EvC.mono (Nat.le_refl _) hb3x)
  have hs3 := hb3.size
  have hs3x := hb13.size
  have C2 := rrecord_any A c B g e (w3.alloc (Obj.cells #[.int .i64 p.1.room, .slice A3 p.1.events.length c3, .int .i64 p.1.lost, .int .i64 p.1.floor] 24)) (by have := hw3x.size; omega) (HR.out.mono EvC.mono (Nat.le_refl _) (hw3x.mono hB)) hc hA
  rw [HP.out] at C2
  unfold Ev.cells at C2
  have HC2 := Lib.hid C2
  clear C2 p0 p1 p2 p3 q0 q1 q2 q3 q4 HC1 hr3
  obtain ⟨-, p0, p1, p2, p3⟩ := LB1.below hb13 hl1
  obtain ⟨q0, q1, q2, q3, q4⟩ := EB1.below hb13 hs1
  go_wp2_with fail
  refine HC2.out.mono ?_
  rintro e' w4 ⟨A4, c4, rfl, hc4, hm4, -, -, hr4, hb4⟩
  have hb14 := hb13.trans (hb4.mono hs3x)
  have LBb := LB.new w4 p.1 A4 c4 24
  have LBa4 := LBa.below hb4 (by simp)
  have hb4x := box_below w4 (Obj.cells #[.int .i64 p.1.room, .slice A4 p.1.events.length c4, .int .i64 p.1.lost, .int .i64 p.1.floor] 24)
  have hs4 : w3.heap.size + 1 ≤ w4.heap.size := by have := hb4.size; simpa using this
  have LBa5 := LBa4.below hb4x (by omega)
  have HR35 := Lib.hid ((HR3.out.mono EvC.mono (Nat.le_refl _) (hb4.mono (by simp))).mono EvC.mono (Nat.le_refl _) (hb4x.mono (by omega)))
  have HR45 := Lib.hid (hr4.mono EvC.mono (Nat.le_refl _) hb4x)
  have hb15 := hb14.trans (hb4x.mono hb14.size)
  clear p0 p1 p2 p3 q0 q1 q2 q3 q4 HC2 HR3 hr4
  go_wp2_with fail
  have LB5 := LB1.below hb15 hl1
  have EB5 := EB1.below hb15 hs1
  have hw5 := hw1.trans (hb15.mono hz1)
  have hs5 := hw5.size
  have t5 : w.heap.size + 1 < (w4.alloc (Obj.cells #[.int .i64 p.1.room, .slice A4 p.1.events.length c4, .int .i64 p.1.lost, .int .i64 p.1.floor] 24)).heap.size := by have := hb15.size; omega
  have la5 : w3.heap.size < (w4.alloc (Obj.cells #[.int .i64 p.1.room, .slice A4 p.1.events.length c4, .int .i64 p.1.lost, .int .i64 p.1.floor] 24)).heap.size := by simp; omega
  have lb5 : w4.heap.size < (w4.alloc (Obj.cells #[.int .i64 p.1.room, .slice A4 p.1.events.length c4, .int .i64 p.1.lost, .int .i64 p.1.floor] 24)).heap.size := by simp
  generalize w4.alloc (Obj.cells #[.int .i64 p.1.room, .slice A4 p.1.events.length c4, .int .i64 p.1.lost, .int .i64 p.1.floor] 24) = W5 at *
  have l1 : w.heap.size < W5.heap.size := by omega
  have CV := fun W (hb : Below W5.heap.size W5 W) => valid_any A c B g W (by have := hb.size; omega) (HR.out.mono EvC.mono (Nat.le_refl _) ((hw5.trans (hb.mono hs5)).mono hB))
  have CR := fun W (hb : Below W5.heap.size W5 W) => rvalid_any A c B g W (by have := hb.size; omega) (HR.out.mono EvC.mono (Nat.le_refl _) ((hw5.trans (hb.mono hs5)).mono hB))
  have CG := fun W => good_any e W
  have CH := fun W => rgood_any e W
  unfold Ev.cells at CG CH
  generalize validB g = vb at *
  generalize goodB e = gb at *
  have HCV := Lib.hid CV
  have HCR := Lib.hid CR
  have HCG := Lib.hid CG
  have HCH := Lib.hid CH
  obtain ⟨-, p0, p1, p2, p3⟩ := id LB5
  obtain ⟨q0, q1, q2, q3, q4⟩ := id EB5
  clear CV CR CG CH
  go_region_held3 (fun w' => (w'.cell? ⟨w.heap.size, 0, Option.none⟩ = some (.int .i64 g.room) ∧ w'.cell? ⟨w.heap.size, 1, Option.none⟩ = some (.slice A g.events.length c) ∧ w'.cell? ⟨w.heap.size, 2, Option.none⟩ = some (.int .i64 g.lost) ∧ w'.cell? ⟨w.heap.size, 3, Option.none⟩ = some (.int .i64 g.floor)) ∧
      w'.cell? ⟨w.heap.size + 1, 0, Option.none⟩ = some (.int .i64 e.time) ∧ w'.cell? ⟨w.heap.size + 1, 1, Option.none⟩ = some (.int .i64 e.device) ∧ w'.cell? ⟨w.heap.size + 1, 2, Option.none⟩ = some (.int .i64 e.signal) ∧ w'.cell? ⟨w.heap.size + 1, 3, Option.none⟩ = some (.bool e.value) ∧ w'.cell? ⟨w.heap.size + 1, 4, Option.none⟩ = some (.int .i64 e.quality)) (first | go_keep | exact s6 | exact s7 | exact s8 | exact s9)
    (first
     | ((go_at_call 15; refine (HCV.out _ (below_drewN (Below.refl _ _) 1)).mono ?_; rintro e' w6 ⟨rfl, hb6'⟩; have hb6 := below_same (a := W5) (B' := W5.heap.size) hb6' rfl rfl rfl rfl (Nat.le_refl _); have s6 := LE.of (LB5.below hb6 l1) (EB5.below hb6 t5)))
     | ((go_at_call 16; refine (HCR.out _ hb6).mono ?_; rintro e' w7 ⟨rfl, hb7⟩; have hb57 := hb6.trans (hb7.mono hb6.size); have s7 := LE.of (LB5.below hb57 l1) (EB5.below hb57 t5)))
     | ((go_at_call 17; refine (HCG.out _).mono ?_; rintro e' w8 ⟨rfl, hb8⟩; have hb58 := hb57.trans (hb8.mono hb57.size); have s8 := LE.of (LB5.below hb58 l1) (EB5.below hb58 t5)))
     | ((go_at_call 18; refine (HCH.out _).mono ?_; rintro e' w9 ⟨rfl, hb9⟩; have hb59 := hb58.trans (hb9.mono hb58.size); have s9 := LE.of (LB5.below hb59 l1) (EB5.below hb59 t5))))
  clear s6 s7 s8 s9 hb6' hb6 hb7 hb57 hb8 hb58 hb9 HCV HCR HCG HCH p0 p1 p2 p3 q0 q1 q2 q3 q4
  obtain ⟨-, p0, p1, p2, p3⟩ := LB5.below hb59 l1
  go_wp2_with fail
  clear p0 p1 p2 p3
  go_loopw [9, 44] (fun ok i wr => ∃ k : Nat, k ≤ g.events.length ∧ i = .int .i64 k ∧ ok = .bool true ∧ Below W5.heap.size W5 wr) (fun _ i _ => g.events.length - (intOf i).toNat)
  case atStart => exact ⟨0, Nat.zero_le _, rfl, rfl, hb59⟩
  case round =>
    obtain ⟨k, hk, rfl, rfl, hbel⟩ := hrel
    have hsz := hbel.size
    have hbw := hw5.trans (hbel.mono hs5)
    clear hb59
    by_cases hlt : k < g.events.length
    · obtain ⟨b, o, x, rfl, hbB, -, E0⟩ := evAt HR.out hlt
      obtain ⟨r0, r1, r2, r3, r4⟩ := E0.below (hbw.mono hB) hbB
      have hbx := box_below wr (Obj.cells #[.int .i64 x.time, .int .i64 x.device, .int .i64 x.signal, .bool x.value, .int .i64 x.quality] 26)
      have EX := EB.new wr x 26
      have EE1 := (EB5.below hbel t5).below hbx (by omega)
      have hb' : b < wr.heap.size := by omega
      have lx : wr.heap.size < (wr.alloc (Obj.cells #[.int .i64 x.time, .int .i64 x.device, .int .i64 x.signal, .bool x.value, .int .i64 x.quality] 26)).heap.size := by simp
      have le : w.heap.size + 1 < (wr.alloc (Obj.cells #[.int .i64 x.time, .int .i64 x.device, .int .i64 x.signal, .bool x.value, .int .i64 x.quality] 26)).heap.size := by simp; omega
      have C1 := fun W => before_any e x W
      have C2 := fun W => rbefore_any e x W
      have C3 := fun W => before_any x e W
      have C4 := fun W => rbefore_any x e W
      unfold Ev.cells at C1 C2 C3 C4
      generalize beforeB e x = b1 at *
      generalize beforeB x e = b2 at *
      have H1 := Lib.hid C1
      have H2 := Lib.hid C2
      have H3 := Lib.hid C3
      have H4 := Lib.hid C4
      clear C1 C2 C3 C4
      go_upto_region 9 with fail
      generalize wr.alloc (Obj.cells #[.int .i64 x.time, .int .i64 x.device, .int .i64 x.signal, .bool x.value, .int .i64 x.quality] 26) = WX at *
      obtain ⟨q0, q1, q2, q3, q4⟩ := id EE1
      obtain ⟨v0, v1, v2, v3, v4⟩ := id EX
      clear r0 r1 r2 r3 r4
      go_region_held3 (fun w' => (w'.cell? ⟨w.heap.size + 1, 0, Option.none⟩ = some (.int .i64 e.time) ∧ w'.cell? ⟨w.heap.size + 1, 1, Option.none⟩ = some (.int .i64 e.device) ∧ w'.cell? ⟨w.heap.size + 1, 2, Option.none⟩ = some (.int .i64 e.signal) ∧ w'.cell? ⟨w.heap.size + 1, 3, Option.none⟩ = some (.bool e.value) ∧ w'.cell? ⟨w.heap.size + 1, 4, Option.none⟩ = some (.int .i64 e.quality)) ∧
          w'.cell? ⟨wr.heap.size, 0, Option.none⟩ = some (.int .i64 x.time) ∧ w'.cell? ⟨wr.heap.size, 1, Option.none⟩ = some (.int .i64 x.device) ∧ w'.cell? ⟨wr.heap.size, 2, Option.none⟩ = some (.int .i64 x.signal) ∧ w'.cell? ⟨wr.heap.size, 3, Option.none⟩ = some (.bool x.value) ∧ w'.cell? ⟨wr.heap.size, 4, Option.none⟩ = some (.int .i64 x.quality)) (first | go_keep | exact s6 | exact s7 | exact s8 | exact s9)
        (first
         | ((go_at_call 19; (with_reducible refine (H1.out _).mono ?_); rintro e' w6 ⟨rfl, hb6'⟩; have hb6 := below_same (a := WX) (B' := WX.heap.size) hb6' rfl rfl rfl rfl (Nat.le_refl _); have s6 := EE.of (EE1.below hb6 le) (EX.below hb6 lx)))
         | ((go_at_call 20; (with_reducible refine (H2.out _).mono ?_); rintro e' w7 ⟨rfl, hb7⟩; have hb57 := hb6.trans (hb7.mono hb6.size); have s7 := EE.of (EE1.below hb57 le) (EX.below hb57 lx)))
         | ((go_at_call 19; (with_reducible refine (H3.out _).mono ?_); rintro e' w8 ⟨rfl, hb8⟩; have hb58 := hb57.trans (hb8.mono hb57.size); have s8 := EE.of (EE1.below hb58 le) (EX.below hb58 lx)))
         | ((go_at_call 20; (with_reducible refine (H4.out _).mono ?_); rintro e' w9 ⟨rfl, hb9⟩; have hb59 := hb58.trans (hb9.mono hb58.size); have s9 := EE.of (EE1.below hb59 le) (EX.below hb59 lx))))
      have hfin := hbel.trans ((hbx.trans (hb59.mono hbx.size)).mono hsz)
      clear s6 s7 s8 s9 hb6' hb6 hb7 hb57 hb8 hb58 hb9 q0 q1 q2 q3 q4 v0 v1 v2 v3 v4 H1 H2 H3 H4
      go_wp2
      go_roundw
      case rel => exact ⟨k + 1, by omega, by go_num, rfl, hfin⟩
      case measure => simp [intOf]; omega
    · obtain rfl : k = g.events.length := by omega
      go_wp2_with fail
      refine (known_any _ (HT.out.below hbw)).mono ?_
      rintro e' w6 ⟨rfl, hb6⟩
      have hb56 := hbel.trans (hb6.mono hsz)
      obtain ⟨-, a0, a1, a2, a3⟩ := LBa5.below hb56 la5
      obtain ⟨-, f0, f1, f2, f3⟩ := LBb.below hb56 lb5
      have hw6 := hw5.trans (hb56.mono hs5)
      have hs6 := hw6.size
      have hs56 := hb56.size
      have C := sameLog_any A3 A4 w3.heap.size w4.heap.size c3 c4 p.1 w6 (by omega) (by omega) (HR35.out.mono EvC.mono (Nat.le_refl _) (hb56.mono (by omega))) (HR45.out.mono EvC.mono (Nat.le_refl _) (hb56.mono (by omega))) (by omega)
      have HC := Lib.hid C
      clear C
      go_wp2_with fail
      refine HC.out.mono ?_
      rintro e' w7 ⟨rfl, hb7⟩
      go_wp2
      go_ret
      exact ⟨rfl, hw6.trans (hb7.mono hs6)⟩
end Go.Proofs.YtcoablindoknpaaDoor
