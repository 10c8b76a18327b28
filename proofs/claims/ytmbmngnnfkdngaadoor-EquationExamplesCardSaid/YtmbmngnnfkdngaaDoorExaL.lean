/-
  The law EquationExamples: the call returns true.
-/
import Derived.Test.YtmbmngnnfkdngaaDoorCheck
import Derived.Test.YtmbmngnnfkdngaaDoorInfo
namespace Go.Proofs.YtmbmngnnfkdngaaDoor
open Go.RowKit

def exX : Ex := .mk 8 0 [] [.mk 11 0 [] [.mk 3 0 [97] [], .mk 2 1 [] []], .mk 3 0 [98] []]
theorem exa1 : parseP [100, 101, 108, 97, 121, 40, 97, 44, 32, 53, 48, 49, 41] = (.zero, 9, 2) := parseP_of (f := 30) (by decide) (by kernel_rfl)
theorem exa2 : parseP [97, 32, 60] = (.zero, 3, 6) := parseP_of (f := 30) (by decide) (by kernel_rfl)
theorem exa3 : parseP [97, 32, 38, 32, 98] = (.zero, 2, 5) := parseP_of (f := 30) (by decide) (by kernel_rfl)
theorem exa4 : parseP [97, 98, 99, 100, 101, 102, 103, 104, 105, 106, 107, 108, 109] = (.zero, 0, 7) := parseP_of (f := 30) (by decide) (by kernel_rfl)
theorem exa5 : parseP [97, 32, 45, 32, 48, 48, 55] = (.zero, 4, 2) := parseP_of (f := 30) (by decide) (by kernel_rfl)
theorem exa6 : parseP [109, 105, 110, 40, 97, 41] = (.zero, 5, 6) := parseP_of (f := 30) (by decide) (by kernel_rfl)
theorem exa7 : parseP [97, 32, 43, 32, 49, 32, 60, 32, 98] = (exX, 0, 0) := parseP_of (f := 30) (by decide) (by kernel_rfl)
theorem exc1 : checkP exX [⟨[97], 2⟩, ⟨[98], 2⟩] = (1, 0) := by kernel_rfl
theorem exc2 : checkP exX [⟨[97], 1⟩, ⟨[98], 2⟩] = (0, 10) := by kernel_rfl
theorem exc3 : checkP exX [] = (0, 9) := by kernel_rfl
theorem exn1 : nameB [120, 95, 49] = true := by kernel_rfl
theorem exn2 : nameB [110, 111, 116] = false := by kernel_rfl
theorem exn3 : nameB [95, 120] = false := by kernel_rfl
theorem exf1 : fmtP .zero = [] := by kernel_rfl
theorem rw_sgs (w : World) (env : List Sg) (hm : env.length ≤ maxLen) (h : ∀ s ∈ env, s.nm.length ≤ maxLen ∧ (Lit.int .i64 s.kind).wf = true) : Rw SgC 2 (w.alloc (Obj.cells (env.flatMap sgCells).toArray 37)) (fun b => b < (w.alloc (Obj.cells (env.flatMap sgCells).toArray 37)).heap.size) (some ⟨w.heap.size, 0, Option.none⟩) env.length env := by
  have := World.ownsRow_lit (base := w.heap.size) (e := 37) (size := 2) w (env.flatMap sgCells).toArray env.length (Nat.le_refl _) hm (by rw [List.size_toArray]; exact flatMap_len env (fun _ _ => rfl))
  exact Rw.of_own (f := sgCells) (by simpa using this) rfl (fun _ _ => rfl) (fun s hs => ⟨rfl, h s hs⟩) (fun _ _ q => q)
theorem zero_xi (w : World) : XI w 0 0 [] Option.none 0 [] := ⟨Nat.le_refl _, Nat.zero_le _, ⟨by decide, by decide, Nat.zero_le _⟩, Rw.nil⟩

set_option maxRecDepth 100000 in
set_option maxHeartbeats 8000000 in
theorem exas_any (w : World) (hw : Lw w) : Calls Tryd.prog 7 #[] w (RetB true w) := by
  have HW := Lib.hid hw
  have HB0 := Lib.hid (Below.refl w.heap.size w)
  clear hw
  have HP1 := Lib.hid (show ∀ W, Lw W → Calls Tryd.prog 19 #[.string ⟨([100, 101, 108, 97, 121, 40, 97, 44, 32, 53, 48, 49, 41] : List UInt8).toArray⟩] W fun e W' =>
      ∃ op n nm A c ks, Ex.zero = .mk op n nm ks ∧ e = .returned (.tuple #[.agg #[.int .i64 op, .int .i64 n, .string ⟨nm.toArray⟩, .slice A ks.length c], .int .i64 9, .int .i64 2]) ∧ XI W' op n nm A c ks ∧ Below W.heap.size W W' from fun W hW => by
    have := parse_in [100, 101, 108, 97, 121, 40, 97, 44, 32, 53, 48, 49, 41] W (by unfold maxLen; decide) hW
    rw [exa1] at this
    exact this)
  have HP2 := Lib.hid (show ∀ W, Lw W → Calls Tryd.prog 19 #[.string ⟨([97, 32, 60] : List UInt8).toArray⟩] W fun e W' =>
      ∃ op n nm A c ks, Ex.zero = .mk op n nm ks ∧ e = .returned (.tuple #[.agg #[.int .i64 op, .int .i64 n, .string ⟨nm.toArray⟩, .slice A ks.length c], .int .i64 3, .int .i64 6]) ∧ XI W' op n nm A c ks ∧ Below W.heap.size W W' from fun W hW => by
    have := parse_in [97, 32, 60] W (by unfold maxLen; decide) hW
    rw [exa2] at this
    exact this)
  have HP3 := Lib.hid (show ∀ W, Lw W → Calls Tryd.prog 19 #[.string ⟨([97, 32, 38, 32, 98] : List UInt8).toArray⟩] W fun e W' =>
      ∃ op n nm A c ks, Ex.zero = .mk op n nm ks ∧ e = .returned (.tuple #[.agg #[.int .i64 op, .int .i64 n, .string ⟨nm.toArray⟩, .slice A ks.length c], .int .i64 2, .int .i64 5]) ∧ XI W' op n nm A c ks ∧ Below W.heap.size W W' from fun W hW => by
    have := parse_in [97, 32, 38, 32, 98] W (by unfold maxLen; decide) hW
    rw [exa3] at this
    exact this)
  have HP4 := Lib.hid (show ∀ W, Lw W → Calls Tryd.prog 19 #[.string ⟨([97, 98, 99, 100, 101, 102, 103, 104, 105, 106, 107, 108, 109] : List UInt8).toArray⟩] W fun e W' =>
      ∃ op n nm A c ks, Ex.zero = .mk op n nm ks ∧ e = .returned (.tuple #[.agg #[.int .i64 op, .int .i64 n, .string ⟨nm.toArray⟩, .slice A ks.length c], .int .i64 0, .int .i64 7]) ∧ XI W' op n nm A c ks ∧ Below W.heap.size W W' from fun W hW => by
    have := parse_in [97, 98, 99, 100, 101, 102, 103, 104, 105, 106, 107, 108, 109] W (by unfold maxLen; decide) hW
    rw [exa4] at this
    exact this)
  have HP5 := Lib.hid (show ∀ W, Lw W → Calls Tryd.prog 19 #[.string ⟨([97, 32, 45, 32, 48, 48, 55] : List UInt8).toArray⟩] W fun e W' =>
      ∃ op n nm A c ks, Ex.zero = .mk op n nm ks ∧ e = .returned (.tuple #[.agg #[.int .i64 op, .int .i64 n, .string ⟨nm.toArray⟩, .slice A ks.length c], .int .i64 4, .int .i64 2]) ∧ XI W' op n nm A c ks ∧ Below W.heap.size W W' from fun W hW => by
    have := parse_in [97, 32, 45, 32, 48, 48, 55] W (by unfold maxLen; decide) hW
    rw [exa5] at this
    exact this)
  have HP6 := Lib.hid (show ∀ W, Lw W → Calls Tryd.prog 19 #[.string ⟨([109, 105, 110, 40, 97, 41] : List UInt8).toArray⟩] W fun e W' =>
      ∃ op n nm A c ks, Ex.zero = .mk op n nm ks ∧ e = .returned (.tuple #[.agg #[.int .i64 op, .int .i64 n, .string ⟨nm.toArray⟩, .slice A ks.length c], .int .i64 5, .int .i64 6]) ∧ XI W' op n nm A c ks ∧ Below W.heap.size W W' from fun W hW => by
    have := parse_in [109, 105, 110, 40, 97, 41] W (by unfold maxLen; decide) hW
    rw [exa6] at this
    exact this)
  have HP7 := Lib.hid (show ∀ W, Lw W → Calls Tryd.prog 19 #[.string ⟨([97, 32, 43, 32, 49, 32, 60, 32, 98] : List UInt8).toArray⟩] W fun e W' =>
      ∃ op n nm A c ks, exX = .mk op n nm ks ∧ e = .returned (.tuple #[.agg #[.int .i64 op, .int .i64 n, .string ⟨nm.toArray⟩, .slice A ks.length c], .int .i64 0, .int .i64 0]) ∧ XI W' op n nm A c ks ∧ Below W.heap.size W W' from fun W hW => by
    have := parse_in [97, 32, 43, 32, 49, 32, 60, 32, 98] W (by unfold maxLen; decide) hW
    rw [exa7] at this
    exact this)
  go_enter Tryd.func7, Tryd.ntmps7
  go_wp2_with fail
  refine (HP1.out _ (HW.out.below HB0.out)).mono ?_
  rintro e w1 ⟨op1, n1, nm1, A1, c1, ks1, hx1, rfl, hxi1, hb1⟩
  have hbx1 := box_below w1 (Obj.cells #[.int .i64 op1, .int .i64 n1, .string ⟨nm1.toArray⟩, .slice A1 ks1.length c1] 24)
  have HB1 := Lib.hid (below_two HB0.out (below_two hb1 hbx1 hb1.size) HB0.out.size)
  clear hx1 hxi1 hb1 hbx1
  go_wp2_with fail
  refine (HP2.out _ (HW.out.below HB1.out)).mono ?_
  rintro e w2 ⟨op2, n2, nm2, A2, c2, ks2, hx2, rfl, hxi2, hb2⟩
  have hbx2 := box_below w2 (Obj.cells #[.int .i64 op2, .int .i64 n2, .string ⟨nm2.toArray⟩, .slice A2 ks2.length c2] 24)
  have HB2 := Lib.hid (below_two HB1.out (below_two hb2 hbx2 hb2.size) HB1.out.size)
  clear hx2 hxi2 hb2 hbx2
  go_wp2_with fail
  refine (HP3.out _ (HW.out.below HB2.out)).mono ?_
  rintro e w3 ⟨op3, n3, nm3, A3, c3, ks3, hx3, rfl, hxi3, hb3⟩
  have hbx3 := box_below w3 (Obj.cells #[.int .i64 op3, .int .i64 n3, .string ⟨nm3.toArray⟩, .slice A3 ks3.length c3] 24)
  have HB3 := Lib.hid (below_two HB2.out (below_two hb3 hbx3 hb3.size) HB2.out.size)
  clear hx3 hxi3 hb3 hbx3
  go_wp2_with fail
  refine (HP4.out _ (HW.out.below HB3.out)).mono ?_
  rintro e w4 ⟨op4, n4, nm4, A4, c4, ks4, hx4, rfl, hxi4, hb4⟩
  have hbx4 := box_below w4 (Obj.cells #[.int .i64 op4, .int .i64 n4, .string ⟨nm4.toArray⟩, .slice A4 ks4.length c4] 24)
  have HB4 := Lib.hid (below_two HB3.out (below_two hb4 hbx4 hb4.size) HB3.out.size)
  clear hx4 hxi4 hb4 hbx4
  go_wp2_with fail
  refine (HP5.out _ (HW.out.below HB4.out)).mono ?_
  rintro e w5 ⟨op5, n5, nm5, A5, c5, ks5, hx5, rfl, hxi5, hb5⟩
  have hbx5 := box_below w5 (Obj.cells #[.int .i64 op5, .int .i64 n5, .string ⟨nm5.toArray⟩, .slice A5 ks5.length c5] 24)
  have HB5 := Lib.hid (below_two HB4.out (below_two hb5 hbx5 hb5.size) HB4.out.size)
  clear hx5 hxi5 hb5 hbx5
  go_wp2_with fail
  refine (HP6.out _ (HW.out.below HB5.out)).mono ?_
  rintro e w6 ⟨op6, n6, nm6, A6, c6, ks6, hx6, rfl, hxi6, hb6⟩
  have hbx6 := box_below w6 (Obj.cells #[.int .i64 op6, .int .i64 n6, .string ⟨nm6.toArray⟩, .slice A6 ks6.length c6] 24)
  have HB6 := Lib.hid (below_two HB5.out (below_two hb6 hbx6 hb6.size) HB5.out.size)
  clear hx6 hxi6 hb6 hbx6
  go_wp2_with fail
  refine (HP7.out _ (HW.out.below HB6.out)).mono ?_
  rintro e w7 ⟨op7, n7, nm7, A7, c7, ks7, hx7, rfl, hxi7, hb7⟩
  have hbx7 := box_below w7 (Obj.cells #[.int .i64 op7, .int .i64 n7, .string ⟨nm7.toArray⟩, .slice A7 ks7.length c7] 24)
  have HB7 := Lib.hid (below_two HB6.out (below_two hb7 hbx7 hb7.size) HB6.out.size)
  have HX := Lib.hid (XV.new w7 op7 n7 nm7 A7 ks7.length c7)
  have HI := Lib.hid (hxi7.below hbx7)
  have HE := Lib.hid hx7
  clear hx7 hxi7 hb7 hbx7
  obtain ⟨V0, hV0⟩ : ∃ V0, (w7.alloc (Obj.cells #[.int .i64 op7, .int .i64 n7, .string ⟨nm7.toArray⟩, .slice A7 ks7.length c7] 24)) = V0 := ⟨_, rfl⟩
  rw [hV0] at HX HI HB7
  have hz7 : w7.heap.size < V0.heap.size := HX.out.lt
  obtain ⟨x0, x1, x2, x3, -, -, -, -⟩ := HX.out.cells
  go_wp2_with fail

  have HV0 := Lib.hid hV0
  clear hV0
  have hbs1 := box_below V0 (Obj.cells #[.string ⟨#[97]⟩, .int .i64 2, .string ⟨#[98]⟩, .int .i64 2] 37)
  have HC1 := Lib.hid (show Calls Tryd.prog 21 _ _ (RetTwo (checkP exX ([⟨[97], 2⟩, ⟨[98], 2⟩] : List Sg)) (V0.alloc (Obj.cells #[.string ⟨#[97]⟩, .int .i64 2, .string ⟨#[98]⟩, .int .i64 2] 37))) from by
    have := Check_any (HI.out.below hbs1) (some ⟨V0.heap.size, 0, Option.none⟩) 2 ([⟨[97], 2⟩, ⟨[98], 2⟩] : List Sg) (by decide) (by unfold maxLen; decide) (rw_sgs V0 ([⟨[97], 2⟩, ⟨[98], 2⟩] : List Sg) (by unfold maxLen; decide) (by
      intro s hs
      simp only [List.mem_cons, List.not_mem_nil, or_false] at hs
      rcases hs with rfl | rfl <;> exact ⟨by unfold maxLen; decide, by decide⟩))
    rw [← HE.out] at this
    exact this)
  rw [exc1] at HC1
  refine HC1.out.mono ?_
  rintro e V1 ⟨rfl, hc1⟩
  have hcb1 := below_two hbs1 hc1 hbs1.size
  have HBV1 := Lib.hid (below_two HB7.out hcb1 HB7.out.size)
  have HXV1 := Lib.hid (HX.out.below hcb1)
  have HIV1 := Lib.hid (HI.out.below hcb1)
  clear hbs1 hc1 hcb1 x0 x1 x2 x3
  dsimp only
  obtain ⟨x0, x1, x2, x3, -, -, -, -⟩ := HXV1.out.cells
  go_wp2_with fail
  have hbs2 := box_below V1 (Obj.cells #[.string ⟨#[97]⟩, .int .i64 1, .string ⟨#[98]⟩, .int .i64 2] 37)
  have HC2 := Lib.hid (show Calls Tryd.prog 21 _ _ (RetTwo (checkP exX ([⟨[97], 1⟩, ⟨[98], 2⟩] : List Sg)) (V1.alloc (Obj.cells #[.string ⟨#[97]⟩, .int .i64 1, .string ⟨#[98]⟩, .int .i64 2] 37))) from by
    have := Check_any (HIV1.out.below hbs2) (some ⟨V1.heap.size, 0, Option.none⟩) 2 ([⟨[97], 1⟩, ⟨[98], 2⟩] : List Sg) (by decide) (by unfold maxLen; decide) (rw_sgs V1 ([⟨[97], 1⟩, ⟨[98], 2⟩] : List Sg) (by unfold maxLen; decide) (by
      intro s hs
      simp only [List.mem_cons, List.not_mem_nil, or_false] at hs
      rcases hs with rfl | rfl <;> exact ⟨by unfold maxLen; decide, by decide⟩))
    rw [← HE.out] at this
    exact this)
  rw [exc2] at HC2
  refine HC2.out.mono ?_
  rintro e V2 ⟨rfl, hc2⟩
  have hcb2 := below_two hbs2 hc2 hbs2.size
  have HBV2 := Lib.hid (below_two HBV1.out hcb2 HBV1.out.size)
  have HXV2 := Lib.hid (HXV1.out.below hcb2)
  have HIV2 := Lib.hid (HIV1.out.below hcb2)
  clear hbs2 hc2 hcb2 x0 x1 x2 x3
  dsimp only
  obtain ⟨x0, x1, x2, x3, -, -, -, -⟩ := HXV2.out.cells
  have HC3 := Lib.hid (show Calls Tryd.prog 21 _ _ (RetTwo (checkP exX []) V2) from by
    have := Check_any HIV2.out Option.none 0 [] (Nat.le_refl _) (Nat.zero_le _) Rw.nil
    rw [← HE.out] at this
    exact this)
  rw [exc3] at HC3
  go_wp2_with fail
  refine HC3.out.mono ?_
  rintro e V3 ⟨rfl, hc3⟩
  dsimp only
  have HBV3 := Lib.hid (below_two HBV2.out hc3 HBV2.out.size)
  clear hc3 x0 x1 x2 x3
  have HK := Lib.hid (known_any _ (HW.out.below HBV3.out))
  go_wp2_with fail
  refine HK.out.mono ?_
  rintro e V4 ⟨rfl, hc4⟩
  have HBV4 := Lib.hid (below_two HBV3.out hc4 HBV3.out.size)
  clear hc4
  have N1 := name_any [120, 95, 49] V4 (by unfold maxLen; decide)
  have N2 := name_any [110, 111, 116] V4 (by unfold maxLen; decide)
  have N3 := name_any [95, 120] V4 (by unfold maxLen; decide)
  rw [exn1] at N1
  rw [exn2] at N2
  rw [exn3] at N3
  have HN1 := Lib.hid N1
  have HN2 := Lib.hid N2
  have HN3 := Lib.hid N3
  have F1 := Format_in (zero_xi V4) (HW.out.below HBV4.out)
  rw [show fmtP (.mk 0 0 [] []) = [] from exf1] at F1
  have HF1 := Lib.hid F1
  clear N1 N2 N3 F1
  go_wp2_with fail
  refine HN1.out.mono ?_
  rintro e V5 ⟨rfl, rfl⟩
  go_wp2_with fail
  refine HN2.out.mono ?_
  rintro e V5 ⟨rfl, rfl⟩
  go_wp2_with fail
  refine HN3.out.mono ?_
  rintro e V5 ⟨rfl, rfl⟩
  go_wp2_with fail
  refine HF1.out.mono ?_
  rintro e V5 ⟨rfl, hc5⟩
  go_wp2
  go_ret
  exact ⟨rfl, below_two HBV4.out hc5 HBV4.out.size⟩
end Go.Proofs.YtmbmngnnfkdngaaDoor
