/-
  The reference's Format, and the law EquationFormats: for every expression the call returns true.
-/
import Derived.Test.YtmbmngnnfkdngaaDoorRTx
namespace Go.Proofs.YtmbmngnnfkdngaaDoor
open Go.RowKit

set_option maxRecDepth 100000 in
set_option maxHeartbeats 4000000 in
theorem rformat_in {w : World} {op n : Int} {nm : List UInt8} {A : Option Addr} {c : Nat} {ks : List Ex} (h : XI w op n nm A c ks) (hs : ∀ d, inG d (.mk op n nm ks) → szG d (.mk op n nm ks) ≤ 1000000000000000000) :
    Calls Tryd.prog 18 #[.agg #[.int .i64 op, .int .i64 n, .string ⟨nm.toArray⟩, .slice A ks.length c]] w (RetStr (fmtP (.mk op n nm ks)) w) := by
  have hbx := box_below w (Obj.cells #[.int .i64 op, .int .i64 n, .string ⟨nm.toArray⟩, .slice A ks.length c] 24)
  have C1 := rvalid_in (h.below hbx) hs
  have HX := Lib.hid (XV.new w op n nm A ks.length c)
  have HI := Lib.hid h
  have HB := Lib.hid hbx
  have HP := Lib.hid (show fmtP (.mk op n nm ks) = if validP (.mk op n nm ks) then fmtG 16 (.mk op n nm ks) else [] from rfl)
  clear hbx h hs
  cases hv : validP (.mk op n nm ks) with
  | false =>
    rw [hv] at C1
    have HC1 := Lib.hid C1
    have HE := Lib.hid (show fmtP (.mk op n nm ks) = [] by rw [HP.out, hv]; rfl)
    clear C1 hv
    go_enter Tryd.func18, Tryd.ntmps18
    go_wp2_with fail
    refine HC1.out.mono ?_
    rintro e w1 ⟨rfl, hb1⟩
    go_wp2
    go_ret
    exact ⟨ret_strL (by rw [HE.out]), below_two HB.out hb1 HB.out.size⟩
  | true =>
    rw [hv] at C1
    have HC1 := Lib.hid C1
    have HE := Lib.hid (show fmtP (.mk op n nm ks) = fmtG 16 (.mk op n nm ks) by rw [HP.out, hv]; rfl)
    have HOK := Lib.hid (valid_ok hv)
    clear C1 hv
    go_enter Tryd.func18, Tryd.ntmps18
    go_wp2_with fail
    refine HC1.out.mono ?_
    rintro e w1 ⟨rfl, hb1⟩
    have HB1 := Lib.hid (below_two HB.out hb1 HB.out.size)
    obtain ⟨x0, x1, x2, x3, -, -, -, -⟩ := (HX.out.below hb1).cells
    have hI := HI.out.below HB1.out
    have C2 := rtext_any 16 op n nm A c ks w1 (Nat.le_refl _) HOK.out hI.hc hI.hm hI.rw
    unfold exV at C2
    have HC2 := Lib.hid C2
    clear C2 hI hb1
    go_wp2_with fail
    refine HC2.out.mono ?_
    rintro e w2 ⟨rfl, hb2⟩
    go_wp2
    go_ret
    exact ⟨ret_strL (by rw [HE.out]), below_two HB1.out hb2 HB1.out.size⟩

set_option maxRecDepth 100000 in
set_option maxHeartbeats 8000000 in
theorem formats_any (op n : Int) (nm : List UInt8) (A : Option Addr) (c : Nat) (ks : List Ex) (w : World) (hw : Lw w) (hxi : XI w op n nm A c ks) :
    Calls Tryd.prog 3 #[.agg #[.int .i64 op, .int .i64 n, .string ⟨nm.toArray⟩, .slice A ks.length c]] w (RetB true w) := by
  have HW := Lib.hid hw
  have hbx := box_below w (Obj.cells #[.int .i64 op, .int .i64 n, .string ⟨nm.toArray⟩, .slice A ks.length c] 24)
  have HB0 := Lib.hid hbx
  have HI0 := Lib.hid hxi
  have HX0 := Lib.hid (XV.new w op n nm A ks.length c)
  have HC1 := Lib.hid (small_yes (hxi.below hbx))
  clear hw hxi hbx
  go_enter Tryd.func3, Tryd.ntmps3
  go_wp2_with fail
  refine HC1.out.mono ?_
  rintro e W1 ⟨b1, rfl, hsm, hb1⟩
  obtain ⟨x0, x1, x2, x3, -, -, -, -⟩ := (HX0.out.below hb1).cells
  have HB1 := Lib.hid (below_two HB0.out hb1 HB0.out.size)
  have HX1 := Lib.hid (HX0.out.below hb1)
  clear hb1 HC1 HB0 HX0
  cases b1 with
  | false =>
    clear hsm
    have HK := Lib.hid (known_any _ (HW.out.below HB1.out))
    go_wp2_with fail
    refine HK.out.mono ?_
    rintro e w3 ⟨rfl, hb3⟩
    go_wp2
    go_ret
    exact ⟨rfl, below_two HB1.out hb3 HB1.out.size⟩
  | true =>
  have HSM := Lib.hid (hsm rfl)
  have hlt : w.heap.size < W1.heap.size := HX1.out.lt
  clear hsm
  have HKN := Lib.hid (fun W (hb : Below W1.heap.size W1 W) => known_any W (HW.out.below (below_two HB1.out hb HB1.out.size)))
  have HV1 := Lib.hid (fun W (hb : Below W1.heap.size W1 W) => Valid_in (HI0.out.below (below_two HB1.out hb HB1.out.size)))
  have HV2 := Lib.hid (fun W (hb : Below W1.heap.size W1 W) => rvalid_in (HI0.out.below (below_two HB1.out hb HB1.out.size)) (sm_size HSM.out))
  have HF1 := Lib.hid (fun W (hb : Below W1.heap.size W1 W) => Format_in (HI0.out.below (below_two HB1.out hb HB1.out.size)) (HW.out.below (below_two HB1.out hb HB1.out.size)))
  have HF2 := Lib.hid (fun W (hb : Below W1.heap.size W1 W) => rformat_in (HI0.out.below (below_two HB1.out hb HB1.out.size)) (sm_size HSM.out))
  generalize validP (.mk op n nm ks) = bv at *
  generalize fmtP (.mk op n nm ks) = fs at *
  have hbb : (bv == bv) = true := by simp
  have hff : (fs == fs) = true := by simp
  go_wp2_with fail
  go_region_held3 (fun w' => w'.cell? ⟨w.heap.size, 0, Option.none⟩ = some (.int .i64 op) ∧ w'.cell? ⟨w.heap.size, 1, Option.none⟩ = some (.int .i64 n) ∧ w'.cell? ⟨w.heap.size, 2, Option.none⟩ = some (.string ⟨nm.toArray⟩) ∧ w'.cell? ⟨w.heap.size, 3, Option.none⟩ = some (.slice A ks.length c)) (go_keep)
    (first
     | ((go_at_call 14; (with_reducible refine (HKN.out _ ((Below.refl _ _).drew)).mono ?_); rintro e w3 ⟨rfl, hb3'⟩; have hb3 := below_same (a := W1) (B' := W1.heap.size) hb3' rfl rfl rfl rfl (Nat.le_refl _); obtain ⟨t0, t1, t2, t3, -, -, -, -⟩ := (HX1.out.below hb3).cells))
     | ((go_at_call 15; (with_reducible refine (HV1.out _ hb3).mono ?_); rintro e w4 ⟨rfl, hb4'⟩; have hb4 := below_two hb3 hb4' hb3.size; obtain ⟨r0, r1, r2, r3, -, -, -, -⟩ := (HX1.out.below hb4).cells))
     | ((go_at_call 16; (with_reducible refine (HV2.out _ hb4).mono ?_); rintro e w5 ⟨rfl, hb5'⟩; have hb5 := below_two hb4 hb5' hb4.size; obtain ⟨s0, s1, s2, s3, -, -, -, -⟩ := (HX1.out.below hb5).cells))
     | ((go_at_call 17; (with_reducible refine (HF1.out _ hb5).mono ?_); rintro e w6 ⟨rfl, hb6'⟩; have hb6 := below_two hb5 hb6' hb5.size; obtain ⟨u0, u1, u2, u3, -, -, -, -⟩ := (HX1.out.below hb6).cells))
     | ((go_at_call 18; (with_reducible refine (HF2.out _ hb6).mono ?_); rintro e w7 ⟨rfl, hb7'⟩; have hb7 := below_two hb6 hb7' hb6.size; obtain ⟨v0, v1, v2, v3, -, -, -, -⟩ := (HX1.out.below hb7).cells)))
  have HBF := Lib.hid (below_two HB1.out hb7 HB1.out.size)
  go_wp2
  go_ret
  exact ⟨rfl, HBF.out⟩
end Go.Proofs.YtmbmngnnfkdngaaDoor
