/-
  The law ScanSteps.
-/
import Derived.Test.YtcikenlflcofbaaGreatDoorRSt
import Derived.Test.YtcikenlflcofbaaGreatDoorK28
namespace Go.Proofs.YtcikenlflcofbaaGreatDoor
open Go.RowKit

set_option maxRecDepth 100000 in
set_option maxHeartbeats 8000000 in
theorem stl_any {w : World} {p : Pg} {l : Pl} {m : Mm} {ml : Ml} {Ai : Option Addr} {ci : Nat} {inp : List Int} (hw : Lw w) (hpg : PgI w (Old w) p l) (hm : MmI w (Old w) m ml) (hi : Rw IaC 1 w (Old w) Ai inp.length inp) (hci : inp.length ≤ ci) (hcm : ci ≤ maxLen) :
    Calls Tryz.prog 4 #[pgV p l, mmV m ml, .slice Ai inp.length ci] w (RetB true w) := by
  obtain ⟨B1, k1, B2, k2, B3, k3, B4, k4⟩ := l
  obtain ⟨D1, d1, D2, d2⟩ := ml
  have hb1 := box_below w (Obj.cells (pgC p ⟨B1, k1, B2, k2, B3, k3, B4, k4⟩) 35)
  have hb2 := box_below (w.alloc (Obj.cells (pgC p ⟨B1, k1, B2, k2, B3, k3, B4, k4⟩) 35)) (Obj.cells (mmC m ⟨D1, d1, D2, d2⟩) 53)
  have hb0 := below_two hb1 hb2 hb1.size
  have hx1 := (hb2.block w.heap.size (by rw [World.size_alloc]; omega)).trans (heap_alloc_new w (Obj.cells (pgC p ⟨B1, k1, B2, k2, B3, k3, B4, k4⟩) 35))
  have hx2 := heap_alloc_new (w.alloc (Obj.cells (pgC p ⟨B1, k1, B2, k2, B3, k3, B4, k4⟩) 35)) (Obj.cells (mmC m ⟨D1, d1, D2, d2⟩) 53)
  rw [World.size_alloc] at hx2
  have hs2 : ((w.alloc (Obj.cells (pgC p ⟨B1, k1, B2, k2, B3, k3, B4, k4⟩) 35)).alloc (Obj.cells (mmC m ⟨D1, d1, D2, d2⟩) 53)).heap.size = w.heap.size + 2 := by simp only [World.size_alloc]
  have HKN0 := Lib.hid (known28_any _ (hw.below hb0))
  have HW := Lib.hid hw
  have HPG := Lib.hid hpg
  have HMM := Lib.hid hm
  have HI := Lib.hid hi
  have HB := Lib.hid hb0
  have HX1 := Lib.hid hx1
  have HX2 := Lib.hid hx2
  have HS2 := Lib.hid hs2
  have pm1 := hpg.m1
  have ph1 := hpg.h1
  have pm4 := hpg.m4
  have ph4 := hpg.h4
  clear hb1 hb2 hb0 hx1 hx2 hs2 hw hpg hm hi
  rcases (show ((200 : Int) < (p.code.length : Int)) ∨ (¬ (200 : Int) < (p.code.length : Int) ∧ (20 : Int) < (p.ins.length : Int)) ∨ (¬ (200 : Int) < (p.code.length : Int) ∧ ¬ (20 : Int) < (p.ins.length : Int) ∧ (64 : Int) < (p.cells.length : Int)) ∨ (¬ (200 : Int) < (p.code.length : Int) ∧ ¬ (20 : Int) < (p.ins.length : Int) ∧ ¬ (64 : Int) < (p.cells.length : Int) ∧ (16 : Int) < (p.rls.length : Int)) ∨ (¬ (200 : Int) < (p.code.length : Int) ∧ ¬ (20 : Int) < (p.ins.length : Int) ∧ ¬ (64 : Int) < (p.cells.length : Int) ∧ ¬ (16 : Int) < (p.rls.length : Int) ∧ (20 : Int) < (m.vals.length : Int)) ∨ (¬ (200 : Int) < (p.code.length : Int) ∧ ¬ (20 : Int) < (p.ins.length : Int) ∧ ¬ (64 : Int) < (p.cells.length : Int) ∧ ¬ (16 : Int) < (p.rls.length : Int) ∧ ¬ (20 : Int) < (m.vals.length : Int) ∧ (70 : Int) < (m.cells.length : Int)) ∨ (¬ (200 : Int) < (p.code.length : Int) ∧ ¬ (20 : Int) < (p.ins.length : Int) ∧ ¬ (64 : Int) < (p.cells.length : Int) ∧ ¬ (16 : Int) < (p.rls.length : Int) ∧ ¬ (20 : Int) < (m.vals.length : Int) ∧ ¬ (70 : Int) < (m.cells.length : Int) ∧ (30 : Int) < (inp.length : Int)) ∨ (¬ (200 : Int) < (p.code.length : Int) ∧ ¬ (20 : Int) < (p.ins.length : Int) ∧ ¬ (64 : Int) < (p.cells.length : Int) ∧ ¬ (16 : Int) < (p.rls.length : Int) ∧ ¬ (20 : Int) < (m.vals.length : Int) ∧ ¬ (70 : Int) < (m.cells.length : Int) ∧ ¬ (30 : Int) < (inp.length : Int)) by omega) with z0 | ⟨z0, z1⟩ | ⟨z0, z1, z2⟩ | ⟨z0, z1, z2, z3⟩ | ⟨z0, z1, z2, z3, z4⟩ | ⟨z0, z1, z2, z3, z4, z5⟩ | ⟨z0, z1, z2, z3, z4, z5, z6⟩ | ⟨z0, z1, z2, z3, z4, z5, z6⟩
  case inr.inr.inr.inr.inr.inr.inr =>
    have HST := Lib.hid (Step_any (ci := ci) (HPG.out.below HB.out) (HMM.out.below HB.out) (HI.out.mono IaC.mono (S' := Old ((w.alloc (Obj.cells (pgC p ⟨B1, k1, B2, k2, B3, k3, B4, k4⟩) 35)).alloc (Obj.cells (mmC m ⟨D1, d1, D2, d2⟩) 53))) (fun b q => Nat.lt_of_lt_of_le q HB.out.size) (keepOn_below HB.out fun _ q => q)))
    go_enter Tryz.func4, Tryz.ntmps4
    go_wp2_with fail
    refine HST.out.mono ?_
    rintro e w1 ⟨⟨X1, x1, X2, x2⟩, rfl, hmx, hb1⟩
    generalize (w.alloc (Obj.cells (pgC p ⟨B1, k1, B2, k2, B3, k3, B4, k4⟩) 35)).alloc (Obj.cells (mmC m ⟨D1, d1, D2, d2⟩) 53) = W2 at *
    obtain ⟨xm, xe, hxx⟩ : ∃ a b, scanS p m inp = (a, b) := ⟨_, _, rfl⟩
    have HXX := Lib.hid hxx
    rw [hxx] at hmx ⊢
    dsimp only at hmx ⊢
    have hs2 := HS2.out
    have hs1 := hb1.size
    have hbw := below_two HB.out hb1 HB.out.size
    have hbx := box_below w1 (Obj.cells (mmC xm ⟨X1, x1, X2, x2⟩) 53)
    have hbv := below_two hbw hbx hbw.size
    have hxa := (hb1.block w.heap.size (by omega)).trans HX1.out
    have hxb := (hb1.block (w.heap.size + 1) (by omega)).trans HX2.out
    have q0 : w1.cell? ⟨w.heap.size, 0, Option.none⟩ = some (.slice B1 p.ins.length k1) := by simp [World.cell?, hxa]
    have q1 : w1.cell? ⟨w.heap.size, 1, Option.none⟩ = some (.slice B2 p.rls.length k2) := by simp [World.cell?, hxa]
    have q2 : w1.cell? ⟨w.heap.size, 2, Option.none⟩ = some (.slice B3 p.cells.length k3) := by simp [World.cell?, hxa]
    have q3 : w1.cell? ⟨w.heap.size, 3, Option.none⟩ = some (.slice B4 p.code.length k4) := by simp [World.cell?, hxa]
    have t0 : w1.cell? ⟨w.heap.size + 1, 0, Option.none⟩ = some (.slice D1 m.vals.length d1) := by simp [World.cell?, hxb]
    have t1 : w1.cell? ⟨w.heap.size + 1, 1, Option.none⟩ = some (.slice D2 m.cells.length d2) := by simp [World.cell?, hxb]
    have hl0 : w.heap.size < w1.heap.size := by omega
    have hl1 : w.heap.size + 1 < w1.heap.size := by omega
    have HXA := Lib.hid hxa
    have HXB := Lib.hid hxb
    have HBV := Lib.hid hbv
    have HMX := Lib.hid (hmx.mono (S' := Old w1) (w' := w1) (fun b q => q.2) (fun _ _ => rfl))
    have HRS := Lib.hid (rStep_any (ci := ci) (HPG.out.below hbv) (HMM.out.below hbv) (HI.out.mono IaC.mono (S' := Old (w1.alloc (Obj.cells (mmC xm ⟨X1, x1, X2, x2⟩) 53))) (fun b q => Nat.lt_of_lt_of_le q hbv.size) (keepOn_below hbv fun _ q => q)) hci hcm)
    have HBX := Lib.hid hbx
    clear hxx hmx hb1 hbw hbx hbv hxa hxb hs1 hs2 HST
    go_wp2_with fail
    refine HRS.out.mono ?_
    rintro e w2 ⟨⟨Y1, y1, Y2, y2⟩, rfl, hmy, hb2⟩
    rw [HXX.out] at hmy ⊢
    dsimp only at hmy ⊢
    have hz1 := World.size_alloc w1 (Obj.cells (mmC xm ⟨X1, x1, X2, x2⟩) 53)
    have hz2 := hb2.size
    have hxc := (hb2.block w1.heap.size (by omega)).trans (heap_alloc_new w1 (Obj.cells (mmC xm ⟨X1, x1, X2, x2⟩) 53))
    have hb12 := below_two HBX.out hb2 HBX.out.size
    have hxa := (hb12.block w.heap.size hl0).trans HXA.out
    have hxb := (hb12.block (w.heap.size + 1) hl1).trans HXB.out
    have hby := box_below w2 (Obj.cells (mmC xm ⟨Y1, y1, Y2, y2⟩) 53)
    have hyn := heap_alloc_new w2 (Obj.cells (mmC xm ⟨Y1, y1, Y2, y2⟩) 53)
    have hbw := below_two (below_two HBV.out hb2 HBV.out.size) hby (below_two HBV.out hb2 HBV.out.size).size
    have hmx := (HMX.out.below hb12).below hby
    have hmy' := (hmy.mono (S' := Old w2) (w' := w2) (fun b q => q.2) (fun _ _ => rfl)).below hby
    have hsz := World.size_alloc w2 (Obj.cells (mmC xm ⟨Y1, y1, Y2, y2⟩) 53)
    obtain ⟨fb, hfb⟩ : ∃ fb, (decide ((verP p).2.2 = 0) && fitsB p m) = fb := ⟨_, rfl⟩
    have hk := fun (W : World) (h : Below (w2.alloc (Obj.cells (mmC xm ⟨Y1, y1, Y2, y2⟩) 53)).heap.size (w2.alloc (Obj.cells (mmC xm ⟨Y1, y1, Y2, y2⟩) 53)) W) => below_two hbw h hbw.size
    have HKN := Lib.hid (fun W h => known28_any W (HW.out.below (hk W h)))
    have HSM := Lib.hid (fun W h => rSame_any (hmx.below (w' := W) h) (hmy'.below (w' := W) h))
    have hf1 := fun W h => Fits_any (HPG.out.below (hk W h)) (HMM.out.below (hk W h))
    have hf2 := fun W h => rFits_any (HPG.out.below (hk W h)) (HMM.out.below (hk W h))
    simp only [hfb] at hf1 hf2
    have HF1 := Lib.hid hf1
    have HF2 := Lib.hid hf2
    have HCX := Lib.hid (fun (W : World) (h : Below (w2.alloc (Obj.cells (mmC xm ⟨Y1, y1, Y2, y2⟩) 53)).heap.size (w2.alloc (Obj.cells (mmC xm ⟨Y1, y1, Y2, y2⟩) 53)) W) => (show W.cell? ⟨w.heap.size, 0, Option.none⟩ = some (.slice B1 p.ins.length k1) ∧ W.cell? ⟨w.heap.size, 1, Option.none⟩ = some (.slice B2 p.rls.length k2) ∧ W.cell? ⟨w.heap.size, 2, Option.none⟩ = some (.slice B3 p.cells.length k3) ∧ W.cell? ⟨w.heap.size, 3, Option.none⟩ = some (.slice B4 p.code.length k4) ∧ W.cell? ⟨w.heap.size + 1, 0, Option.none⟩ = some (.slice D1 m.vals.length d1) ∧ W.cell? ⟨w.heap.size + 1, 1, Option.none⟩ = some (.slice D2 m.cells.length d2) ∧ W.cell? ⟨w1.heap.size, 0, Option.none⟩ = some (.slice X1 xm.vals.length x1) ∧ W.cell? ⟨w1.heap.size, 1, Option.none⟩ = some (.slice X2 xm.cells.length x2) ∧ W.cell? ⟨w2.heap.size, 0, Option.none⟩ = some (.slice Y1 xm.vals.length y1) ∧ W.cell? ⟨w2.heap.size, 1, Option.none⟩ = some (.slice Y2 xm.cells.length y2) from by
      have e0 := (h.block w.heap.size (by omega)).trans ((hby.block w.heap.size (by omega)).trans hxa)
      have e1 := (h.block (w.heap.size + 1) (by omega)).trans ((hby.block (w.heap.size + 1) (by omega)).trans hxb)
      have e2 := (h.block w1.heap.size (by omega)).trans ((hby.block w1.heap.size (by omega)).trans hxc)
      have e3 := (h.block w2.heap.size (by omega)).trans hyn
      refine ⟨?_, ?_, ?_, ?_, ?_, ?_, ?_, ?_, ?_, ?_⟩ <;> simp [World.cell?, e0, e1, e2, e3]))
    have HBW := Lib.hid hbw
    clear q0 q1 q2 q3 t0 t1 hfb hk hf1 hf2 hmx hmy hmy' hbw hby hyn hb2 hb12 hxa hxb hxc HRS
    go_upto_region 5 with fail
    generalize w2.alloc (Obj.cells (mmC xm ⟨Y1, y1, Y2, y2⟩) 53) = W3 at *
    have hbc := Below.refl W3.heap.size W3
    obtain ⟨s0, s1, s2, s3, s4, s5, s6, s7, s8, s9⟩ := HCX.out _ hbc
    have HL := Lib.hid (And.intro hz1 hsz)
    have hlw : w2.heap.size < W3.heap.size := by omega
    have hlw1 : w1.heap.size < W3.heap.size := by omega
    clear hz1 hsz
    cases fb
    all_goals
      (go_simp)
      go_region_held3 (fun w' => w'.cell? ⟨w.heap.size, 0, Option.none⟩ = some (.slice B1 p.ins.length k1) ∧ w'.cell? ⟨w.heap.size, 1, Option.none⟩ = some (.slice B2 p.rls.length k2) ∧ w'.cell? ⟨w.heap.size, 2, Option.none⟩ = some (.slice B3 p.cells.length k3) ∧ w'.cell? ⟨w.heap.size, 3, Option.none⟩ = some (.slice B4 p.code.length k4) ∧ w'.cell? ⟨w.heap.size + 1, 0, Option.none⟩ = some (.slice D1 m.vals.length d1) ∧ w'.cell? ⟨w.heap.size + 1, 1, Option.none⟩ = some (.slice D2 m.cells.length d2) ∧ w'.cell? ⟨w1.heap.size, 0, Option.none⟩ = some (.slice X1 xm.vals.length x1) ∧ w'.cell? ⟨w1.heap.size, 1, Option.none⟩ = some (.slice X2 xm.cells.length x2) ∧ w'.cell? ⟨w2.heap.size, 0, Option.none⟩ = some (.slice Y1 xm.vals.length y1) ∧ w'.cell? ⟨w2.heap.size, 1, Option.none⟩ = some (.slice Y2 xm.cells.length y2)) (first | exact ⟨s0, s1, s2, s3, s4, s5, s6, s7, s8, s9⟩ | exact HCX.out _ hbc | exact HCX.out _ (below_drew hbc) | go_keep)
        (first | ((go_at_call 6; (first | refine (HKN.out _ hbc).mono ?_ | refine (HKN.out _ (below_drew hbc)).mono ?_); rintro e w5 ⟨rfl, hb5⟩; (first | have hbc := below_two hbc hb5 hbc.size | have hbc := below_two (below_drew hbc) hb5 (below_drew hbc).size); obtain ⟨s0, s1, s2, s3, s4, s5, s6, s7, s8, s9⟩ := HCX.out _ hbc)) | ((go_at_call 15; (first | refine (HSM.out _ hbc).mono ?_ | refine (HSM.out _ (below_drew hbc)).mono ?_); rintro e w5 ⟨rfl, hb5⟩; (first | have hbc := below_two hbc hb5 hbc.size | have hbc := below_two (below_drew hbc) hb5 (below_drew hbc).size); obtain ⟨s0, s1, s2, s3, s4, s5, s6, s7, s8, s9⟩ := HCX.out _ hbc)) | ((go_at_call 16; (first | refine (HF1.out _ hbc).mono ?_ | refine (HF1.out _ (below_drew hbc)).mono ?_); rintro e w5 ⟨rfl, hb5⟩; (first | have hbc := below_two hbc hb5 hbc.size | have hbc := below_two (below_drew hbc) hb5 (below_drew hbc).size); obtain ⟨s0, s1, s2, s3, s4, s5, s6, s7, s8, s9⟩ := HCX.out _ hbc)) | ((go_at_call 17; (first | refine (HF2.out _ hbc).mono ?_ | refine (HF2.out _ (below_drew hbc)).mono ?_); rintro e w5 ⟨rfl, hb5⟩; (first | have hbc := below_two hbc hb5 hbc.size | have hbc := below_two (below_drew hbc) hb5 (below_drew hbc).size); obtain ⟨s0, s1, s2, s3, s4, s5, s6, s7, s8, s9⟩ := HCX.out _ hbc)))
      all_goals
        go_wp2
        go_ret
        exact ⟨rfl, below_two HBW.out hbc HBW.out.size⟩
  all_goals
    go_enter Tryz.func4, Tryz.ntmps4
    go_wp2_with fail
    refine HKN0.out.mono ?_
    rintro e w1 ⟨rfl, hb3⟩
    have HB3 := Lib.hid (below_two HB.out hb3 HB.out.size)
    clear hb3
    go_wp2
    go_ret
    exact ⟨rfl, HB3.out⟩
end Go.Proofs.YtcikenlflcofbaaGreatDoor
