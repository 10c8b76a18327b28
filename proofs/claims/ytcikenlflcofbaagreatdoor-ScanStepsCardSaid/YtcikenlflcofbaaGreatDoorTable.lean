/-
  The table of kinds: equation.table, and the signature of an operation.
-/
import Derived.Test.YtcikenlflcofbaaGreatDoorM1
import Derived.Test.YtcikenlflcofbaaGreatDoorP1
import Derived.Test.YtcikenlflcofbaaGreatDoorSaX
import Derived.Carry
namespace Go.Proofs.YtcikenlflcofbaaGreatDoor
open Go.RowKit

/-- What the map holds. -/
def kF (env : List Sg) (s : ByteArray) : Option Value := (kindOf env s.data.toList).map fun k => .int .i64 k
theorem kF_nil : kF [] = fun _ => Option.none := rfl
theorem kF_get (env : List Sg) (s : List UInt8) : kF env ⟨s.toArray⟩ = (kindOf env s).map fun k => .int .i64 k := rfl
theorem kF_snoc (pre : List Sg) (s : Sg) (h : kindOf pre s.nm = none) : kF (pre ++ [s]) = putS (kF pre) ⟨s.nm.toArray⟩ (.int .i64 s.kind) := by
  funext x
  unfold kF putS
  rw [kindOf_snoc pre s h]
  by_cases hx : x.data.toList = s.nm
  · rw [if_pos hx, if_pos (by rw [toList_data, toList_data, hx])]; rfl
  · rw [if_neg hx, if_neg (fun q => hx (by rw [toList_data, toList_data] at q; exact q))]
theorem zeroInt (w : World) : (zeroValue 3).run Tryz.prog w = .ok (.int .i64 0) w := by kernel_rfl
/-- The map of kinds. -/
abbrev KMap (w : World) (b n : Nat) (env : List Sg) : Prop := MapS Tryz.prog 9 3 w b n (kF env)
def RetTab (env : List Sg) (w : World) (e : Ending) (w' : World) : Prop :=
  Below w.heap.size w w' ∧ ((goodP env = true ∧ ∃ b, e = .returned (.tuple #[.map (some b), .bool true]) ∧ w.heap.size ≤ b ∧ KMap w' b env.length env) ∨ (goodP env = false ∧ e = .returned (.tuple #[.map Option.none, .bool false])))
def TabR (w : World) (env : List Sg) (g : Nat) (v : Value) (wr : World) : Prop :=
  ∃ k : Nat, k ≤ env.length ∧ env.length - k < g ∧ v = .int .i64 (k : Int) ∧ goodG (env.take k) (env.drop k) = goodP env ∧ KMap wr w.heap.size k (env.take k) ∧ Below w.heap.size w wr

set_option maxRecDepth 100000 in
set_option maxHeartbeats 4000000 in
theorem table_any (A : Option Addr) (c : Nat) (env : List Sg) (w : World) (hc : env.length ≤ c) (hm : c ≤ maxLen) (hr : Rw SgC 2 w (fun b => b < w.heap.size) A env.length env) :
    Calls Tryz.prog 46 #[.slice A env.length c] w (RetTab env w) := by
  have hmm := @run_makeMap Tryz.prog
  have HR := Lib.hid hr
  clear hr
  unfold maxLen at hm
  have hbx := box_below w (Obj.map #[] 0)
  have HBX := Lib.hid hbx
  clear hbx
  go_enter Tryz.func46, Tryz.ntmps46
  go_wp2
  clear hmm
  go_loopg [12] (env.length + 1) (fun g v wr => TabR w env g v wr)
  case atStart => exact ⟨0, Nat.zero_le _, by omega, rfl, by rw [List.take_zero, List.drop_zero]; rfl, by rw [List.take_zero]; exact MapS.made Tryz.prog 9 3 w, HBX.out⟩
  case round =>
    obtain ⟨k, hk, hgk, rfl, hgood, hmap, hbel⟩ := hrel
    have hs := hmap.block
    by_cases hlt : k < env.length
    case neg =>
      obtain rfl : k = env.length := by omega
      rw [List.drop_length] at hgood
      rw [List.take_length] at hmap
      have HG := Lib.hid (show goodP env = true from hgood.symm)
      have HM := Lib.hid hmap
      have HB := Lib.hid hbel
      clear hgood hmap hbel hlt
      go_wp2
      exact bodyPost_ret (v := .tuple #[.map (some w.heap.size), .bool true]) (by simp [results, Tryz.results46, go_sem]) rfl ⟨HB.out, .inl ⟨HG.out, _, rfl, Nat.le_refl _, HM.out⟩⟩
    obtain ⟨b, o, s, hA, hSb, hx, hxl, hxw, y0, y1⟩ := sgAt (HR.out.mono SgC.mono (fun _ q => q) (keepOn_below hbel fun _ q => q)) hlt
    subst hA
    have hget : env[k] = s := by
      rw [List.getElem?_eq_getElem hlt] at hx
      injection hx
    rw [List.drop_eq_getElem_cons hlt, hget] at hgood
    unfold goodG at hgood
    have htake : env.take (k + 1) = env.take k ++ [s] := by
      rw [List.take_succ_eq_append_getElem hlt, hget]
    rw [← htake] at hgood
    have hbk : b < wr.heap.size := Nat.lt_of_lt_of_le hSb hbel.size
    obtain ⟨nm, kd⟩ := s
    dsimp only at *
    have hml := hmap.alloc (Obj.cells #[.string ⟨nm.toArray⟩, .int .i64 kd] 40)
    have hbx := below_two hbel (box_below wr (Obj.cells #[.string ⟨nm.toArray⟩, .int .i64 kd] 40)) hbel.size
    have hsz : (⟨nm.toArray⟩ : ByteArray).size ≤ maxLen := by simpa [ByteArray.size] using hxl
    have C := fun W => name_any nm W hxl
    unfold sgB at hgood
    dsimp only at hgood
    generalize hNB : nameB nm = nb at *
    clear hNB
    have HC := Lib.hid C
    have HB := Lib.hid hbx
    have HT := Lib.hid htake
    have hlk := hml.look (t := 68) Tryz.underlying9 Tryz.underlying68 (zeroInt _) hsz true
    rw [kF_get] at hlk
    clear C hbx htake hx hget hbel hmap hSb
    cases nb with
    | false =>
      have HG := Lib.hid (show goodP env = false by rw [← hgood]; rfl)
      clear hgood hlk hml
      go_wp2_with fail
      refine (HC.out _).mono ?_
      rintro e w5 ⟨rfl, rfl⟩
      go_wp2
      exact bodyPost_ret (v := .tuple #[.map Option.none, .bool false]) (by simp [results, Tryz.results46, go_sem]) rfl ⟨HB.out, .inr ⟨HG.out, rfl⟩⟩
    | true =>
      by_cases hkd : kd = 1 ∨ kd = 2
      case neg =>
        have HG := Lib.hid (show goodP env = false by rw [← hgood]; simp [hkd])
        have k1 : (kd != 1) = true := by simp; exact fun q => hkd (.inl q)
        have k2 : (kd != 2) = true := by simp; exact fun q => hkd (.inr q)
        clear hgood hlk hml hkd
        go_wp2_with fail
        refine (HC.out _).mono ?_
        rintro e w5 ⟨rfl, rfl⟩
        go_wp2
        exact bodyPost_ret (v := .tuple #[.map Option.none, .bool false]) (by simp [results, Tryz.results46, go_sem]) rfl ⟨HB.out, .inr ⟨HG.out, rfl⟩⟩
      have hkw : (kd != 1) = false ∨ (kd != 1) = true ∧ (kd != 2) = false := by
        rcases hkd with rfl | rfl
        · exact .inl rfl
        · exact .inr ⟨rfl, rfl⟩
      cases hko : kindOf (env.take k) nm with
      | some v =>
        have HG := Lib.hid (show goodP env = false by rw [← hgood, hko]; simp)
        rw [hko] at hlk
        simp only [if_true, Option.map_some, Option.getD_some, Option.isSome_some] at hlk
        clear hgood hml hkd hko
        rcases hkw with k1 | ⟨k1, k2⟩
        all_goals
          go_wp2_with fail
          refine (HC.out _).mono ?_
          rintro e w5 ⟨rfl, rfl⟩
          go_wp2
          exact bodyPost_ret (v := .tuple #[.map Option.none, .bool false]) (by simp [results, Tryz.results46, go_sem]) rfl ⟨HB.out, .inr ⟨HG.out, rfl⟩⟩
      | none =>
        have HG := Lib.hid (show goodG (env.take (k + 1)) (env.drop (k + 1)) = goodP env by rw [← hgood, hko]; rcases hkd with rfl | rfl <;> simp)
        rw [hko] at hlk
        simp only [if_true, Option.map_none, Option.getD_none, Option.isSome_none] at hlk
        obtain ⟨w', hup, hm', hg⟩ := hml.store (t := 68) Tryz.underlying9 Tryz.underlying68 (by unfold maxLen; omega) hsz (plainElem_int Tryz.underlying3 (a := kd) hxw)
        rw [← kF_snoc (env.take k) ⟨nm, kd⟩ hko, ← HT.out] at hm'
        have HM := Lib.hid hm'
        have HB2 := Lib.hid (HB.out.grown hg (by have := hml.block; omega) (fun j hj => by cases hj; exact Nat.le_refl _))
        clear hgood hml hkd hko hm' hg
        rcases hkw with k1 | ⟨k1, k2⟩
        all_goals
          go_wp2_with fail
          refine (HC.out _).mono ?_
          rintro e w5 ⟨rfl, rfl⟩
          go_wp2
          go_roundg (env.length - k)
          case measure => omega
          case rel => exact ⟨k + 1, by omega, by omega, by go_num, HG.out, HM.out, HB2.out⟩
end Go.Proofs.YtcikenlflcofbaaGreatDoor
