/-
  Check of the program.
-/
import Derived.Test.YtmbmngnnfkdngaaDoorChk
namespace Go.Proofs.YtmbmngnnfkdngaaDoor
open Go.RowKit

set_option maxRecDepth 100000 in
set_option maxHeartbeats 4000000 in
theorem Check_any {w : World} {op n : Int} {nm : List UInt8} {A : Option Addr} {c : Nat} {ks : List Ex} (h : XI w op n nm A c ks) (A' : Option Addr) (c' : Nat) (env : List Sg) (hc' : env.length ≤ c') (hm' : c' ≤ maxLen) (hr' : Rw SgC 2 w (fun b => b < w.heap.size) A' env.length env) :
    Calls Tryd.prog 21 #[.agg #[.int .i64 op, .int .i64 n, .string ⟨nm.toArray⟩, .slice A ks.length c], .slice A' env.length c'] w (RetTwo (checkP (.mk op n nm ks) env) w) := by
  have hbx := box_below w (Obj.cells #[.int .i64 op, .int .i64 n, .string ⟨nm.toArray⟩, .slice A ks.length c] 24)
  have C1 := table_any A' c' env (w.alloc (Obj.cells #[.int .i64 op, .int .i64 n, .string ⟨nm.toArray⟩, .slice A ks.length c] 24)) hc' hm' (hr'.mono SgC.mono (fun b q => by simp only [World.size_alloc]; omega) (keepOn_below hbx fun b q => q))
  have hX := XV.new w op n nm A ks.length c
  have h1 := h.below hbx
  have HC1 := Lib.hid C1
  have HX := Lib.hid hX
  have HI := Lib.hid h1
  have HB := Lib.hid hbx
  have hcl := h.hc
  have hml := h.hm
  clear C1 hX h1 hbx h hr'
  unfold maxLen at hml hm'
  have hP : checkP (.mk op n nm ks) env = if goodP env = false ∨ validP (.mk op n nm ks) = false then (0, 1) else chkG env 16 (.mk op n nm ks) := rfl
  have HP := Lib.hid hP
  clear hP
  go_enter Tryd.func21, Tryd.ntmps21
  go_wp2_with fail
  refine HC1.out.mono ?_
  rintro e w1 ⟨hb1, ⟨hg, mb, rfl, -, hmap⟩ | ⟨hg, rfl⟩⟩
  case inr =>
    obtain ⟨x0, x1, x2, x3, -, -, -, -⟩ := (HX.out.below hb1).cells
    have HR := Lib.hid (HP.out.trans (if_pos (.inl hg)))
    have HB1 := Lib.hid (below_two HB.out hb1 HB.out.size)
    clear hg hb1
    go_wp2
    refine bodyPost_ret (v := .tuple #[.int .i64 0, .int .i64 1]) (by simp [results, Tryd.results21, go_sem]) rfl ⟨?_, HB1.out⟩
    rw [HR.out]
  have hX1 := HX.out.below hb1
  have hI1 := HI.out.below hb1
  have HB1 := Lib.hid (below_two HB.out hb1 HB.out.size)
  obtain ⟨x0, x1, x2, x3, -, -, -, -⟩ := hX1.cells
  have C2 := Valid_in hI1
  have HG := Lib.hid hg
  have HM := Lib.hid hmap
  have HX1 := Lib.hid hX1
  have HI1 := Lib.hid hI1
  clear hg hmap hb1 hX1 hI1 HC1
  cases hv : validP (.mk op n nm ks) with
  | false =>
    rw [hv] at C2
    have HC2 := Lib.hid C2
    have HR := Lib.hid (HP.out.trans (if_pos (.inr hv)))
    clear C2 hv
    go_wp2_with fail
    refine HC2.out.mono ?_
    rintro e w2 ⟨rfl, hb2⟩
    have HB2 := Lib.hid (below_two HB1.out hb2 HB1.out.size)
    clear hb2
    go_wp2
    refine bodyPost_ret (v := .tuple #[.int .i64 0, .int .i64 1]) (by simp [results, Tryd.results21, go_sem]) rfl ⟨?_, HB2.out⟩
    rw [HR.out]
  | true =>
    rw [hv] at C2
    have HC2 := Lib.hid C2
    have HR := Lib.hid (HP.out.trans (if_neg (by rw [HG.out, hv]; simp)))
    have HV := Lib.hid (valid_ok hv)
    clear C2 hv
    go_wp2_with fail
    refine HC2.out.mono ?_
    rintro e w2 ⟨rfl, hb2⟩
    have hX2 := HX1.out.below hb2
    have hI2 := HI1.out.below hb2
    have hM2 := HM.out.below hb2 HM.out.block
    obtain ⟨z0, z1, z2, z3, -, -, -, -⟩ := hX2.cells
    have C3 := check_any 16 op n nm A c ks w2 mb env.length env HV.out hI2.hc hI2.hm hI2.hp hI2.rw hM2
    unfold exV at C3
    have HC3 := Lib.hid C3
    have HB2 := Lib.hid (below_two HB1.out hb2 HB1.out.size)
    clear C3 hX2 hI2 hM2 hb2 x0 x1 x2 x3
    go_wp2_with fail
    refine HC3.out.mono ?_
    rintro e w3 ⟨rfl, hb3⟩
    have HB3 := Lib.hid (below_two HB2.out hb3 HB2.out.size)
    clear hb3
    generalize chkG env 16 (.mk op n nm ks) = r at *
    obtain ⟨r1, r2⟩ := r
    dsimp only
    go_wp2
    refine bodyPost_ret (v := .tuple #[.int .i64 r1, .int .i64 r2]) (by simp [results, Tryd.results21, go_sem]) rfl ⟨?_, HB3.out⟩
    rw [HR.out]
end Go.Proofs.YtmbmngnnfkdngaaDoor
