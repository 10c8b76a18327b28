/-
  The reference's GoodEnv, Wants, kind and Check.
-/
import Derived.Test.YtmbmngnnfkdngaaDoorCheck
import Derived.Test.YtmbmngnnfkdngaaDoorRV
namespace Go.Proofs.YtmbmngnnfkdngaaDoor
open Go.RowKit

def GeR (W0 : World) (env : List Sg) (g : Nat) (v : Value) (wr : World) : Prop := ∃ k : Nat, k ≤ env.length ∧ env.length - k < g ∧ v = .int .i64 (k : Int) ∧ goodG (env.take k) (env.drop k) = goodP env ∧ Below W0.heap.size W0 wr
def GeS (W0 : World) (k : Nat) (env : List Sg) (nm : List UInt8) (g : Nat) (v : Value) (wr : World) : Prop := ∃ j : Nat, j ≤ k ∧ k - j < g ∧ v = .int .i64 (j : Int) ∧ (∀ i y, i < j → env[i]? = some y → y.nm ≠ nm) ∧ Below W0.heap.size W0 wr
theorem kindOf_take_some {env : List Sg} {k j : Nat} {y : Sg} (hj : j < k) (hy : env[j]? = some y) : (kindOf (env.take k) y.nm).isNone = false := by
  unfold kindOf
  have hm : y ∈ env.take k := List.mem_of_getElem? (i := j) (by rw [List.getElem?_take_of_lt hj]; exact hy)
  cases hf : (env.take k).find? fun x => decide (x.nm = y.nm) with
  | none => have := List.find?_eq_none.1 hf y hm; simp at this
  | some z => rfl
theorem kindOf_take_none {env : List Sg} {k : Nat} {nm : List UInt8} (h : ∀ i y, i < k → env[i]? = some y → y.nm ≠ nm) : (kindOf (env.take k) nm).isNone = true := by
  unfold kindOf
  have : (env.take k).find? (fun x => decide (x.nm = nm)) = none := by
    rw [List.find?_eq_none]
    intro x hx
    obtain ⟨j, hj, rfl⟩ := List.getElem_of_mem hx
    rw [List.length_take] at hj
    have := h j _ (by omega) (List.getElem?_eq_getElem (by omega))
    simpa [List.getElem_take] using this
  rw [this]
  rfl
theorem ge_succ {env : List Sg} {nm : List UInt8} {j : Nat} {y : Sg} (h : ∀ i y, i < j → env[i]? = some y → y.nm ≠ nm) (hy : env[j]? = some y) (hn : y.nm ≠ nm) : ∀ i y, i < j + 1 → env[i]? = some y → y.nm ≠ nm := by
  intro i z hi hz
  rcases Nat.lt_succ_iff_lt_or_eq.1 hi with q | rfl
  · exact h i z q hz
  · rw [hy] at hz; cases hz; exact hn

set_option maxRecDepth 100000 in
set_option maxHeartbeats 4000000 in
theorem rgood_any (A : Option Addr) (c : Nat) (env : List Sg) (w : World) (hc : env.length ≤ c) (hm : c ≤ maxLen) (hr : Rw SgC 2 w (fun b => b < w.heap.size) A env.length env) :
    Calls Tryd.prog 47 #[.slice A env.length c] w (RetB (goodP env) w) := by
  have HR := Lib.hid hr
  clear hr
  unfold maxLen at hm
  go_enter Tryd.func47, Tryd.ntmps47
  go_wp2
  go_loopg [9] (env.length + 1) (fun g v wr => GeR w env g v wr)
  case atStart => exact ⟨0, Nat.zero_le _, by omega, rfl, by rw [List.take_zero, List.drop_zero]; rfl, Below.refl _ _⟩
  case round =>
    obtain ⟨k, hk, hgk, rfl, hgood, hbel⟩ := hrel
    by_cases hlt : k < env.length
    case neg =>
      obtain rfl : k = env.length := by omega
      rw [List.drop_length] at hgood
      have HG := Lib.hid (show goodP env = true from hgood.symm)
      have HB := Lib.hid hbel
      clear hgood hbel hlt
      go_wp2
      go_ret
      exact ⟨ret_bool HG.out.symm, HB.out⟩
    obtain ⟨b, o, s, hA, hSb, hx, hxl, hxw, y0, y1⟩ := sgAt (HR.out.mono SgC.mono (fun _ q => q) (keepOn_below hbel fun _ q => q)) hlt
    subst hA
    have hget : env[k] = s := by
      rw [List.getElem?_eq_getElem hlt] at hx
      injection hx
    rw [List.drop_eq_getElem_cons hlt, hget] at hgood
    unfold goodG at hgood
    have htake : env.take (k + 1) = env.take k ++ [s] := by
      rw [List.take_succ_eq_append_getElem hlt, hget]
    rw [← htake] at hgood
    have hbk : b < wr.heap.size := Nat.lt_of_lt_of_le hSb hbel.size
    obtain ⟨nm, kd⟩ := s
    dsimp only at *
    have hbx := box_below wr (Obj.cells #[.string ⟨nm.toArray⟩, .int .i64 kd] 37)
    have hbw := below_two hbel hbx hbel.size
    have C := fun W => rname_any nm W hxl
    unfold sgB at hgood
    dsimp only at hgood
    generalize hNB : nameB nm = nb at *
    clear hNB
    have HC := Lib.hid C
    have HB := Lib.hid hbw
    have HX := Lib.hid hx
    have hnew0 : (wr.alloc (Obj.cells #[.string ⟨nm.toArray⟩, .int .i64 kd] 37)).cell? ⟨wr.heap.size, 0, Option.none⟩ = some (.string ⟨nm.toArray⟩) := by rw [cell_of_row _ wr.heap.size 0 _ _ (0, 0) (heap_alloc_new wr _)]; rfl
    have hnew1 : (wr.alloc (Obj.cells #[.string ⟨nm.toArray⟩, .int .i64 kd] 37)).cell? ⟨wr.heap.size, 1, Option.none⟩ = some (.int .i64 kd) := by rw [cell_of_row _ wr.heap.size 1 _ _ (0, 0) (heap_alloc_new wr _)]; rfl
    clear C hbx hbw htake hx hget hSb
    cases nb with
    | false =>
      have HG := Lib.hid (show goodP env = false by rw [← hgood]; rfl)
      clear hgood hbel hnew0 hnew1
      go_wp2_with fail
      refine (HC.out _).mono ?_
      rintro e w5 ⟨rfl, hb5⟩
      go_wp2
      go_ret
      exact ⟨ret_bool HG.out.symm, below_two HB.out hb5 HB.out.size⟩
    | true =>
      have HN0 := Lib.hid hnew0
      have HN1 := Lib.hid hnew1
      clear hnew0 hnew1
      by_cases hkd : kd = 1 ∨ kd = 2
      case neg =>
        have HG := Lib.hid (show goodP env = false by rw [← hgood]; simp [hkd])
        have k1 : (kd != 1) = true := by simp; exact fun q => hkd (.inl q)
        have k2 : (kd != 2) = true := by simp; exact fun q => hkd (.inr q)
        clear hgood hbel hkd
        go_wp2_with fail
        refine (HC.out _).mono ?_
        rintro e w5 ⟨rfl, hb5⟩
        have z1 := cell_below HN1.out hb5
        go_wp2
        go_ret
        exact ⟨ret_bool HG.out.symm, below_two HB.out hb5 HB.out.size⟩
      have hkw : (kd != 1) = false ∨ (kd != 1) = true ∧ (kd != 2) = false := by
        rcases hkd with rfl | rfl
        · exact .inl rfl
        · exact .inr ⟨rfl, rfl⟩
      have hg2 : goodP env = ((kindOf (env.take k) nm).isNone && goodG (env.take (k + 1)) (env.drop (k + 1))) := by
        rw [← hgood]
        rcases hkd with rfl | rfl <;> simp
      have HG := Lib.hid hg2
      clear hgood hg2 hkd hbel
      rcases hkw with k1 | ⟨k1, k2⟩
      all_goals
        go_wp2_with fail
        refine (HC.out _).mono ?_
        rintro e w5 ⟨rfl, hb5⟩
        have HB5 := Lib.hid (below_two HB.out hb5 HB.out.size)
        have HZ0 := Lib.hid (cell_below HN0.out hb5)
        have z1 := cell_below HN1.out hb5
        have hlt5 := hb5.size
        simp only [World.size_alloc] at hlt5
        clear hb5
        have hkc : k ≤ c := by omega
        go_wp2
        clear z1
        go_loopg [32] (k + 1) (fun g v wq => GeS w5 k env nm g v wq)
        case atStart => exact ⟨0, Nat.zero_le _, by omega, rfl, fun i y h => absurd h (Nat.not_lt_zero _), Below.refl _ _⟩
        case round =>
          rename World => wq
          obtain ⟨j, hj, hgj, rfl, hall, hbq⟩ := hrel
          have HALL := Lib.hid hall
          have hbq2 := below_two HB5.out hbq HB5.out.size
          have hsq := hbq.size
          clear hall
          by_cases hjk : j < k
          case neg =>
            obtain rfl : j = k := by omega
            have HG2 := Lib.hid (show goodG (env.take (j + 1)) (env.drop (j + 1)) = goodP env by rw [HG.out, kindOf_take_none HALL.out, Bool.true_and])
            have HBQ := Lib.hid hbq2
            clear hbq hbq2
            go_wp2
            go_roundg (env.length - j)
            case measure => omega
            case rel => exact ⟨j + 1, by omega, by omega, by go_num, HG2.out, HBQ.out⟩
          obtain ⟨b', o', s', hA', hSb', hx', hxl', hxw', u0, u1⟩ := sgAt (HR.out.mono SgC.mono (fun _ q => q) (keepOn_below hbq2 fun _ q => q)) (k := j) (by omega)
          injection hA' with hA'
          injection hA' with hA1 hA2
          subst hA1
          subst hA2
          obtain ⟨nm', kd'⟩ := s'
          dsimp only at *
          have hbk' : b < wq.heap.size := by omega
          have hzz : wr.heap.size < wq.heap.size := by omega
          have z0 := cell_below HZ0.out hbq
          have hbx' := box_below wq (Obj.cells #[.string ⟨nm'.toArray⟩, .int .i64 kd'] 37)
          have HBQ := Lib.hid (below_two hbq hbx' hbq.size)
          have HBW := Lib.hid (below_two hbq2 hbx' hbq2.size)
          have HX' := Lib.hid hx'
          clear hbq hbq2 hbx' hx' hSb'
          by_cases he : nm' = nm
          · have e1 : (nm' == nm) = true := by simp [he]
            subst he
            have HG3 := Lib.hid (show goodP env = false by rw [HG.out, kindOf_take_some hjk HX'.out, Bool.false_and])
            go_wp2
            go_ret
            exact ⟨ret_bool HG3.out.symm, HBW.out⟩
          · have e1 : (nm' == nm) = false := by simp [he]
            have HS := Lib.hid (ge_succ HALL.out HX'.out he)
            clear he
            go_wp2
            go_roundg (k - j)
            case measure => omega
            case rel => exact ⟨j + 1, by omega, by omega, by go_num, HS.out, HBQ.out⟩
end Go.Proofs.YtmbmngnnfkdngaaDoor
