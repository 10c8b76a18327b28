/-
 ConfiguredValues: for every configuration and every list of uint64s the law's call returns true, and its arguments read afterwards as they read before. Conditions: the library's listed package-level variables hold what their initialisers lay, which the card ties to the program's text.
-/
import Derived.Test.YtjkimieapfbhbaaGreatDoorKRowBase
set_option maxRecDepth 100000
set_option maxHeartbeats 8000000
namespace Go.Proofs.YtjkimieapfbhbaaGreatDoor
open Go.ChangeShapes Go.WideShapes Go.ChangeAt Go.RowKit
namespace rowX
def wargs : Array Value := #[.agg #[.string ⟨#[]⟩, .slice Option.none 0 0, .slice Option.none 0 0, .slice Option.none 0 0, .slice Option.none 0 0, .slice Option.none 0 0], .slice Option.none 0 0]
theorem laid_met (os : Os) : laidMet Tryz.prog Rows.configuredValuesRow.laid ((laidWorld os).forCall (fun _ _ => 0) ⟨#[], wargs, []⟩).memory :=
 laidMet_of_run' 8 (by kernel_rfl) (by kernel_rfl)
theorem reads (os : Os) {H : Type} (enc : TypeId × Value → H) : (DataW.whole enc Tryz.prog ((laidWorld os).forCall (fun _ _ => 0) ⟨#[], wargs, []⟩).memory Tryz.f3.params.toList Rows.configuredValuesSpec.vars false wargs.toList 8).isSome = true := by kernel_rfl
theorem typesOk : ∀ t ∈ Tryz.f3.params.toList, Tryz.prog.readableRec t = true ∧ t < Tryz.prog.types.size := by
 rw [Tryz.params3]; intro t ht; simp only [List.mem_cons, List.not_mem_nil, or_false] at ht
 rcases ht with rfl | rfl
 · exact ⟨by kernel_rfl, of_decide_eq_true (by kernel_rfl)⟩
 · exact ⟨by kernel_rfl, of_decide_eq_true (by kernel_rfl)⟩
theorem contract (H : Type) (enc : TypeId × Value → H) (W : World) (base : Nat) (args : Array Value) (ds gs : List (DataW H)) (before : List MemPlace)
 (hval : ∀ (j : Nat) t v, Tryz.f3.params[j]? = some t → args[j]? = some v → Value.okWide Tryz.prog W .any base t v)
 (hW : DataW.Whole enc Tryz.prog Tryz.f3.params.toList Rows.configuredValuesSpec.vars false W args.toList ds gs before) (_hL : laidMetH Tryz.prog Rows.configuredValuesRow.laid W)
 (_hsz : (DataW.weightsEach Tryz.prog (Tryz.f3.params.toList ++ (OpenSpec.ofChange Rows.configuredValuesSpec).bare.plain.varTypes Tryz.prog) (ds ++ gs)).all (· ≤ reachBytes) = true) :
 Calls Tryz.prog 3 args W fun e W' => ∃ v, e = .returned v ∧ Rows.configuredValuesSpec.post enc Tryz.prog Tryz.f3 false true false false W args v W' := by
 have hW' := hW; obtain ⟨p, q, hA0, hV, rfl, hfz, hnd⟩ := hW; have hA : DataW.TrodAll enc Tryz.prog W 0 (fun _ => true) true Tryz.f3.params.toList args.toList ds p := hA0; rw [Tryz.params3] at hA hval; obtain ⟨v0, vs0, d0, ds0, p0, q0, hargs, rfl, rfl, h0, r0⟩ := trodAll_cons hA; obtain ⟨v1, vs1, d1, ds1, p1, q1, rfl, rfl, rfl, h1, r1⟩ := trodAll_cons r0; obtain ⟨rfl, rfl, rfl⟩ := trodAll_nil r1; obtain rfl : args = #[v0, v1] := by cases args; simp only at hargs; rw [hargs]
 obtain ⟨rfl, rfl⟩ := trodVars_none hV; obtain ⟨⟨l0⟩, rfl, _⟩ := okWide_struct Tryz.underlying30 (hval 0 30 v0 rfl rfl); obtain ⟨fuel0, hf0⟩ := h0; obtain ⟨sp, S, A, cc, xs, hx0, hc0⟩ := ziE hf0; obtain rfl : l0 = [.string S.name, .slice sp.A1 S.buses.length sp.c1, .slice sp.A2 S.lines.length sp.c2, .slice sp.A3 S.sources.length sp.c3, .slice sp.A4 S.bays.length sp.c4, .slice A xs.length cc] := hx0; obtain ⟨a1, len1, cap1, rfl⟩ := okWide_slice Tryz.underlying31 (hval 1 31 v1 rfl rfl); obtain ⟨fuel1, hf1⟩ := h1; obtain ⟨es1, A1, c1, he1, hc1, hm1, hr1⟩ := zkG hf1; obtain ⟨rfl, rfl, rfl⟩ : a1 = A1 ∧ len1 = es1.length ∧ cap1 = c1 := by have hx : ([.slice a1 len1 cap1] : List Value) = _ := he1; simpa using hx
 refine (law_ok W.heap.size sp S A _ cc _ xs es1 W (Nat.le_refl _) (tab_of _hL (by kernel_rfl)) hc0 hr1).mono fun e W' ⟨he, hb⟩ => ?_
 subst he; exact ⟨_, rfl, zla zml hW' typesOk rfl rfl Tryz.underlying4 rfl rfl rfl hb⟩
theorem lifted (os : Os) (started : os.Started) (H : Type) (enc : TypeId × Value → H) (F : Stop.Interp) :
 ReturnsInHanded {} Tryz.checked os 3 .any ((OpenSpec.ofChange Rows.configuredValuesSpec).preRow enc Tryz.prog Tryz.f3 Rows.configuredValuesRow.domain false Rows.configuredValuesRow.laid) (((OpenSpec.ofChange Rows.configuredValuesSpec).at F).post enc Tryz.prog Tryz.f3 false true false false) := by
 obtain ⟨x, hx⟩ := Option.isSome_iff_exists.1 (reads os enc)
 refine returnsInHanded_of_row (C := Tryz.checked) (s := OpenSpec.ofChange Rows.configuredValuesSpec) own started (by kernel_rfl) Tryz.func3
  (witness_row_at (enc := enc) (C := Tryz.checked) false (laidWorld os) wargs rfl (by kernel_rfl) (by kernel_rfl) (by kernel_rfl)
   (OpenSpec.preRow_of_cond 8 hx rfl (fun k hk => by cases hk) (by kernel_rfl) (laid_met os))) ?_
 intro W base args ds gs before hval hW _ _ hsz hL _ _; exact contract H enc W base args ds gs before hval hW hL hsz
theorem said : Rows.ConfiguredValuesSaid :=
 OpenClaim.holds_of_cond 3 Tryz.f3 rfl rfl rfl rfl rfl rfl rfl ⟨rfl, rfl, rfl, rfl, rfl⟩ rfl rfl rfl rfl rfl (by kernel_rfl) Tryz.func3 (by kernel_rfl)
  (of_decide_eq_true (by kernel_rfl)) (by unfold Func.isWrapper; rw [if_neg (of_decide_eq_false (by kernel_rfl))]; exact ⟨rfl, rfl⟩)
  (fun os started H enc _ F => by rw [OpenClaim.pre_eq_preRow]; exact lifted os started H enc F)
theorem plain (f : FuncId) (fn : Func) (hf : Tryz.pinned.checked.prog.funcNamed Tryz.f3.name = some f) (hfn : Tryz.pinned.checked.prog.funcs[f]? = some fn) :
 true = Tryz.pinned.checked.prog.looks [] ∧ ∀ (j : Nat) t, fn.params[j]? = some t → Tryz.pinned.checked.prog.wantsStandIn t = false := by
 obtain rfl : f = 3 := Option.some.inj ((show Tryz.prog.funcNamed Tryz.f3.name = some 3 by kernel_rfl).symm.trans hf) |>.symm
 obtain rfl : fn = Tryz.f3 := (Option.some.inj (Tryz.func3.symm.trans hfn)).symm; refine ⟨by kernel_rfl, fun j t ht => ?_⟩
 have hm : t ∈ Tryz.f3.params.toList := by simpa using Array.mem_of_getElem? ht
 rw [Tryz.params3] at hm; simp only [List.mem_cons, List.not_mem_nil, or_false] at hm
 rcases hm with rfl | rfl
 · exact (show Tryz.prog.wantsStandIn 30 = false by kernel_rfl)
 · exact (show Tryz.prog.wantsStandIn 31 = false by kernel_rfl)
theorem card : Rows.ConfiguredValuesCardSaid :=
 Claim7.holds_tied_plain_at .later [] _ _ _ _ said (fun _ h => by cases h) (by kernel_rfl) (fun _ h => by cases h) configuredValues_row_tie rfl ⟨rfl, rfl⟩ (by kernel_rfl) rfl plain (by kernel_rfl)
end rowX
end Go.Proofs.YtjkimieapfbhbaaGreatDoor
