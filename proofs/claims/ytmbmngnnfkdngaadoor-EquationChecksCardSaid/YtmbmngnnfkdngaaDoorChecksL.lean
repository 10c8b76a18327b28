/-
  The reference's Check, and the law EquationChecks: for every expression and environment the call returns true.
-/
import Derived.Test.YtmbmngnnfkdngaaDoorRK
namespace Go.Proofs.YtmbmngnnfkdngaaDoor
open Go.RowKit

set_option maxRecDepth 100000 in
set_option maxHeartbeats 4000000 in
theorem rCheck_any {w : World} {op n : Int} {nm : List UInt8} {A : Option Addr} {c : Nat} {ks : List Ex} (h : XI w op n nm A c ks) (hs : ∀ d, inG d (.mk op n nm ks) → szG d (.mk op n nm ks) ≤ 1000000000000000000) (A' : Option Addr) (c' : Nat) (env : List Sg) (hc' : env.length ≤ c') (hm' : c' ≤ maxLen) (hr' : Rw SgC 2 w (fun b => b < w.heap.size) A' env.length env) :
    Calls Tryd.prog 23 #[.agg #[.int .i64 op, .int .i64 n, .string ⟨nm.toArray⟩, .slice A ks.length c], .slice A' env.length c'] w (RetTwo (checkP (.mk op n nm ks) env) w) := by
  have hbx := box_below w (Obj.cells #[.int .i64 op, .int .i64 n, .string ⟨nm.toArray⟩, .slice A ks.length c] 24)
  have hX := XV.new w op n nm A ks.length c
  have hrB : ∀ W, Below w.heap.size w W → Rw SgC 2 W (fun b => b < W.heap.size) A' env.length env := fun W hb => hr'.mono SgC.mono (fun _ q => Nat.lt_of_lt_of_le q hb.size) (keepOn_below hb fun _ q => q)
  have C1 := rvalid_in (h.below hbx) hs
  have HX := Lib.hid hX
  have HI := Lib.hid h
  have HB := Lib.hid hbx
  have HRB := Lib.hid hrB
  have HP := Lib.hid (show checkP (.mk op n nm ks) env = if goodP env = false ∨ validP (.mk op n nm ks) = false then (0, 1) else chkG env 16 (.mk op n nm ks) from rfl)
  have HVO := Lib.hid (fun q : validP (.mk op n nm ks) = true => valid_ok q)
  have HC' := Lib.hid hc'
  have HM' := Lib.hid hm'
  unfold maxLen at hm'
  clear hbx hX h hr' hrB hs
  generalize validP (.mk op n nm ks) = bv at *
  have HC1 := Lib.hid C1
  clear C1
  go_enter Tryd.func23, Tryd.ntmps23
  go_wp2_with fail
  refine HC1.out.mono ?_
  rintro e w1 ⟨rfl, hb1⟩
  have HB1 := Lib.hid (below_two HB.out hb1 HB.out.size)
  have HX1 := Lib.hid (HX.out.below hb1)
  clear hb1
  cases bv with
  | false =>
    have HF := Lib.hid (HP.out.trans (if_pos (.inr rfl)))
    go_wp2
    refine bodyPost_ret (v := .tuple #[.int .i64 0, .int .i64 1]) (by simp [results, Tryd.results23, go_sem]) rfl ⟨?_, HB1.out⟩
    rw [HF.out]
  | true =>
  have C2 := rgood_any A' c' env w1 HC'.out HM'.out (HRB.out w1 HB1.out)
  have HOK := Lib.hid (HVO.out rfl)
  clear HVO
  cases hg : goodP env with
  | false =>
    have HF := Lib.hid (HP.out.trans (if_pos (.inl hg)))
    rw [hg] at C2
    have HC2 := Lib.hid C2
    clear C2 hg
    go_wp2_with fail
    refine HC2.out.mono ?_
    rintro e w2 ⟨rfl, hb2⟩
    have HB2 := Lib.hid (below_two HB1.out hb2 HB1.out.size)
    go_wp2
    refine bodyPost_ret (v := .tuple #[.int .i64 0, .int .i64 1]) (by simp [results, Tryd.results23, go_sem]) rfl ⟨?_, HB2.out⟩
    rw [HF.out]
  | true =>
    have HF := Lib.hid (HP.out.trans (if_neg (by rw [hg]; simp)))
    rw [hg] at C2
    have HC2 := Lib.hid C2
    clear C2 hg
    go_wp2_with fail
    refine HC2.out.mono ?_
    rintro e w2 ⟨rfl, hb2⟩
    have HB2 := Lib.hid (below_two HB1.out hb2 HB1.out.size)
    obtain ⟨z0, z1, z2, z3, -, -, -, -⟩ := (HX1.out.below hb2).cells
    have hI2 := HI.out.below HB2.out
    have C3 := rkind_any 16 op n nm A c ks w2 A' c' env HOK.out hI2.hc hI2.hm hI2.hp hI2.rw HC'.out HM'.out (HRB.out w2 HB2.out)
    unfold exV at C3
    have HC3 := Lib.hid C3
    clear C3 hI2 hb2
    go_wp2_with fail
    refine HC3.out.mono ?_
    rintro e w3 ⟨rfl, hb3⟩
    have HB3 := Lib.hid (below_two HB2.out hb3 HB2.out.size)
    clear hb3
    generalize chkG env 16 (.mk op n nm ks) = r at *
    obtain ⟨r1, r2⟩ := r
    dsimp only
    go_wp2
    refine bodyPost_ret (v := .tuple #[.int .i64 r1, .int .i64 r2]) (by simp [results, Tryd.results23, go_sem]) rfl ⟨?_, HB3.out⟩
    rw [HF.out]

set_option maxRecDepth 100000 in
set_option maxHeartbeats 8000000 in
theorem checks_any (op n : Int) (nm : List UInt8) (A : Option Addr) (c : Nat) (ks : List Ex) (A' : Option Addr) (c' : Nat) (env : List Sg) (w : World) (hw : Lw w) (hxi : XI w op n nm A c ks)
    (hc' : env.length ≤ c') (hm' : c' ≤ maxLen) (hr' : Rw SgC 2 w (fun b => b < w.heap.size) A' env.length env) :
    Calls Tryd.prog 8 #[.agg #[.int .i64 op, .int .i64 n, .string ⟨nm.toArray⟩, .slice A ks.length c], .slice A' env.length c'] w (RetB true w) := by
  have HW := Lib.hid hw
  have hbx := box_below w (Obj.cells #[.int .i64 op, .int .i64 n, .string ⟨nm.toArray⟩, .slice A ks.length c] 24)
  have HB0 := Lib.hid hbx
  have HI0 := Lib.hid hxi
  have HX0 := Lib.hid (XV.new w op n nm A ks.length c)
  have HRB := Lib.hid (show ∀ W, Below w.heap.size w W → Rw SgC 2 W (fun b => b < W.heap.size) A' env.length env from fun W hb => hr'.mono SgC.mono (fun _ q => Nat.lt_of_lt_of_le q hb.size) (keepOn_below hb fun _ q => q))
  have HM := Lib.hid hm'
  have HC1 := Lib.hid (small_yes (hxi.below hbx))
  have HC' := Lib.hid hc'
  unfold maxLen at hm'
  clear hw hxi hbx hr'
  go_enter Tryd.func8, Tryd.ntmps8
  go_wp2_with fail
  refine HC1.out.mono ?_
  rintro e w1 ⟨b1, rfl, hsm, hb1⟩
  obtain ⟨x0, x1, x2, x3, -, -, -, -⟩ := (HX0.out.below hb1).cells
  have HB1 := Lib.hid (below_two HB0.out hb1 HB0.out.size)
  have HX1 := Lib.hid (HX0.out.below hb1)
  clear hb1 HC1 HB0 HX0
  cases b1 with
  | false =>
    clear hsm
    have HK := Lib.hid (known_any _ (HW.out.below HB1.out))
    go_wp2_with fail
    refine HK.out.mono ?_
    rintro e w3 ⟨rfl, hb3⟩
    go_wp2
    go_ret
    exact ⟨rfl, below_two HB1.out hb3 HB1.out.size⟩
  | true =>
  have HSM := Lib.hid (hsm rfl)
  clear hsm
  by_cases hl : 30 < env.length
  · have d1 : (30 : Int) < (env.length : Int) := by omega
    have HK := Lib.hid (known_any _ (HW.out.below HB1.out))
    go_wp2_with fail
    refine HK.out.mono ?_
    rintro e w4 ⟨rfl, hb4⟩
    go_wp2
    go_ret
    exact ⟨rfl, below_two HB1.out hb4 HB1.out.size⟩
  have d1 : ¬ (30 : Int) < (env.length : Int) := by omega
  have HC2 := Lib.hid (fun W (hb : Below w.heap.size w W) => Check_any (HI0.out.below hb) A' c' env HC'.out HM.out (HRB.out W hb))
  have HC3 := Lib.hid (fun W (hb : Below w.heap.size w W) => rCheck_any (HI0.out.below hb) (sm_size HSM.out) A' c' env HC'.out HM.out (HRB.out W hb))
  generalize checkP (.mk op n nm ks) env = r at *
  obtain ⟨ra, rb⟩ := r
  have HC2' := Lib.hid (HC2.out w1 HB1.out)
  clear HC2
  go_wp2_with fail
  refine HC2'.out.mono ?_
  rintro e w2 ⟨rfl, hb2⟩
  dsimp only
  have HB2 := Lib.hid (below_two HB1.out hb2 HB1.out.size)
  clear x0 x1 x2 x3
  obtain ⟨x0, x1, x2, x3, -, -, -, -⟩ := (HX1.out.below hb2).cells
  have HC3' := Lib.hid (HC3.out w2 HB2.out)
  clear HC3 hb2
  go_wp2_with fail
  refine HC3'.out.mono ?_
  rintro e w3 ⟨rfl, hb3⟩
  dsimp only
  have HB3 := Lib.hid (below_two HB2.out hb3 HB2.out.size)
  have HK := Lib.hid (known_any _ (HW.out.below HB3.out))
  clear hb3
  go_wp2_with fail
  refine HK.out.mono ?_
  rintro e w4 ⟨rfl, hb4⟩
  go_wp2
  go_ret
  exact ⟨ret_bool (by simp), below_two HB3.out hb4 HB3.out.size⟩
end Go.Proofs.YtmbmngnnfkdngaaDoor
