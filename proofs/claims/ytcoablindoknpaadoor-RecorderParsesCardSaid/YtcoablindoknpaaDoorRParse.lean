/-
  Parse of the reference, over any text of bounded length.
-/
import Derived.Test.YtcoablindoknpaaDoorREv
namespace Go.Proofs.YtcoablindoknpaaDoor
open Go.RowKit

structure RpS (w : World) (text : List UInt8) (k f : Nat) (l : List Ev) (v : Value) (wr : World) : Prop where
  le : f ≤ k
  no : (10 : UInt8) ∉ (text.drop f).take (k - f)
  few : l.length ≤ f
  par : ∃ F, (text.drop f).length < F ∧ parseP text = parseF F l l.length (text.drop f)
  own : wr.ownsRow w.heap.size 26 5 v l.length (evCells l)
  bel : Below w.heap.size w wr
def RpR (w : World) (text : List UInt8) (v fr n i : Value) (wr : World) : Prop :=
  ∃ (k f : Nat) (l : List Ev), k ≤ text.length ∧ i = .int .i64 k ∧ fr = .int .i64 f ∧ n = .int .i64 l.length ∧ RpS w text k f l v wr
theorem take_more {l : List UInt8} {m : Nat} {c : UInt8} (h : l[m]? = some c) (hn : (10 : UInt8) ∉ l.take m) (hc : c ≠ 10) : (10 : UInt8) ∉ l.take (m + 1) := by
  rw [List.take_add_one, h]
  simp only [Option.toList_some, List.mem_append, List.mem_singleton, not_or]
  exact ⟨hn, fun e => hc e.symm⟩
theorem drop_split {text : List UInt8} {f k : Nat} (hf : f ≤ k) (h : text[k]? = some 10) : text.drop f = (text.drop f).take (k - f) ++ 10 :: text.drop (k + 1) := by
  have hk := (List.getElem?_eq_some_iff.1 h).1
  have h1 : (text.drop f)[k - f]? = some 10 := by rw [List.getElem?_drop, show f + (k - f) = k by omega]; exact h
  have h2 := (List.getElem?_eq_some_iff.1 h1).1
  conv => lhs; rw [← List.take_append_drop (k - f) (text.drop f)]
  rw [List.drop_eq_getElem_cons h2, (List.getElem?_eq_some_iff.1 h1).2, List.drop_drop]
  rw [show f + (k - f + 1) = k + 1 by omega]

set_option maxRecDepth 100000 in
set_option maxHeartbeats 4000000 in
theorem rparse_any (text : List UInt8) (ht : text.length ≤ 2000) (w : World) : Calls Tryd.prog 30 #[.string ⟨text.toArray⟩] w (RetParse (parseP text) w) := by
  obtain ⟨i0, hi, hz0, hz1, hz2⟩ := info_parts infoEv
  go_enter Tryd.func30, Tryd.ntmps30
  go_wp2
  go_loopw [5, 6, 7, 8] (RpR w text) (fun _ _ _ i _ => text.length - (intOf i).toNat)
  case atStart => exact ⟨0, 0, [], Nat.zero_le _, rfl, rfl, rfl, Nat.le_refl _, by simp, Nat.le_refl _, ⟨text.length + 1, by simp, rfl⟩, World.ownsRow_nil _ _ _ _, Below.refl _ _⟩
  case round =>
    obtain ⟨k, f, l, hk, rfl, rfl, rfl, hS⟩ := hrel
    have HS := Lib.hid hS
    have hsz := hS.bel.size
    have hfk := hS.le
    have hlf := hS.few
    clear hS
    by_cases hlt : k < text.length
    case neg =>
      obtain rfl : k = text.length := by omega
      obtain ⟨F, hF, hp⟩ := HS.out.par
      obtain ⟨F, rfl⟩ : ∃ F', F = F' + 1 := ⟨F - 1, by omega⟩
      by_cases hfl : f < text.length
      · have hb : (f : Int) < (text.length : Int) := by omega
        have hne : text.drop f ≠ [] := by intro h; have := congrArg List.length h; simp at this; omega
        have hno : (10 : UInt8) ∉ text.drop f := by
          have := HS.out.no
          rwa [List.take_of_length_le (by simp)] at this
        have HB := Lib.hid (hp.trans (parseF_bad1 hne (by rw [cut_miss hno])))
        have hbel := HS.out.bel
        clear hp hne hno
        go_wp2
        refine bodyPost_ret (v := .tuple #[.slice Option.none 0 0, .int .i64 l.length, .int .i64 6]) (by simp [results, Tryd.results30, go_sem]) rfl ?_
        rw [HB.out]
        exact RetParse.bad _ hbel
      · have hb : ¬ (f : Int) < (text.length : Int) := by omega
        have hd : text.drop f = [] := List.drop_eq_nil_of_le (by omega)
        rw [hd, parseF_nil] at hp
        have HP := Lib.hid hp
        have hown := HS.out.own
        obtain ⟨A, c, rfl, hc, hm⟩ := own_shape hown
        have HRw := Lib.hid (rws_of_ev hown rfl)
        have hbel := HS.out.bel
        clear hp hown
        go_wp2
        refine bodyPost_ret (v := .tuple #[.slice A l.length c, .int .i64 0, .int .i64 0]) (by simp [results, Tryd.results30, go_sem]) rfl ?_
        rw [HP.out]
        exact ⟨A, c, rfl, hc, hm, HRw.out, hbel⟩
    have hc := List.getElem?_eq_getElem hlt
    have hkb : ({ data := text.toArray } : ByteArray)[k]'(by show k < text.toArray.size; simpa using hlt) = text[k] := rfl
    generalize text[k] = c at *
    by_cases hc10 : c.toNat = 10
    case neg =>
      have e1 : ((c.toNat : Int) != 10) = true := by simp; omega
      have hcn : c ≠ 10 := by intro h; rw [h] at hc10; exact hc10 rfl
      have hno : (10 : UInt8) ∉ (text.drop f).take (k + 1 - f) := by
        rw [show k + 1 - f = k - f + 1 by omega]
        exact take_more (by rw [List.getElem?_drop, show f + (k - f) = k by omega]; exact hc) HS.out.no hcn
      have HNo := Lib.hid hno
      clear hc hno
      go_wp2
      go_roundw
      case rel => exact ⟨k + 1, f, l, by omega, by go_num, rfl, rfl, by omega, HNo.out, hlf, HS.out.par, HS.out.own, HS.out.bel⟩
      case measure => simp [intOf]; omega
    have hce : c = 10 := by apply UInt8.toNat_inj.1; rw [hc10]; rfl
    subst hce
    have e1 : (((10 : UInt8).toNat : Int) != 10) = false := rfl
    obtain ⟨F, hF, hp⟩ := HS.out.par
    obtain ⟨F, rfl⟩ : ∃ F', F = F' + 1 := ⟨F - 1, by omega⟩
    have hsp := drop_split hfk hc
    have hnx := HS.out.no
    have hxl : ((text.drop f).take (k - f)).length + 1 ≤ 2000 := by simp; omega
    have hex : ByteArray.extract ⟨text.toArray⟩ f (k + 1) = ⟨((text.drop f).take (k - f) ++ [10]).toArray⟩ := by
      rw [Lib.extract_eq]
      have h1 : (text.drop f)[k - f]? = some 10 := by rw [List.getElem?_drop, show f + (k - f) = k by omega]; exact hc
      rw [show k + 1 - f = k - f + 1 by omega, List.take_add_one]
      simp [h1]
    have hF' : (text.drop (k + 1)).length < F := by
      have := congrArg List.length hsp
      rw [List.length_append, List.length_cons] at this
      omega
    generalize (text.drop f).take (k - f) = x at *
    rw [hsp] at hp
    have hcut := cut_hit (c := 10) (b := text.drop (k + 1)) hnx
    have C := fun W => revent_any (x ++ [10]) (by simp; omega) W
    rw [evL_snoc] at C
    have hne : x ++ 10 :: text.drop (k + 1) ≠ [] := by simp
    have hk1 : (f : Int) ≤ (k : Int) + 1 := by omega
    have hk2 : (k : Int) + 1 ≤ (text.length : Int) := by omega
    have hbel := HS.out.bel
    generalize x ++ [10] = y at *
    cases hev : evP x with
    | none =>
      rw [hev] at C
      have HB := Lib.hid (hp.trans (parseF_bad2 hne (by rw [hcut]; exact hev)))
      have HC := Lib.hid C
      clear C hp hsp hnx hcut hev hne hc hF
      go_wp2_with fail
      refine (HC.out _).mono ?_
      rintro e w2 ⟨rfl, hb2⟩
      have hw2 := hbel.trans (hb2.mono hsz)
      have hw3 := hw2.trans ((box_below w2 (Obj.cells #[.int .i64 0, .int .i64 0, .int .i64 0, .bool false, .int .i64 0] 26)).mono hw2.size)
      dsimp only [Option.getD_none, Option.isSome_none, zeroEv, Ev.cells]
      go_wp2
      refine bodyPost_ret (v := .tuple #[.slice Option.none 0 0, .int .i64 l.length, .int .i64 6]) (by simp [results, Tryd.results30, go_sem]) rfl ?_
      rw [HB.out]
      exact RetParse.bad _ hw3
    | some a =>
      rw [hev] at C
      have HB := Lib.hid (hp.trans ((parseF_step hne (by rw [hcut]) (by rw [hcut]; exact hev)).trans (by rw [hcut])))
      have HC := Lib.hid C
      clear C hp hsp hnx hcut hev hne hc hF
      go_wp2_with fail
      refine (HC.out _).mono ?_
      rintro e w2 ⟨rfl, hb2⟩
      have hw2 := hbel.trans (hb2.mono hsz)
      have hbx := box_below w2 (Obj.cells #[.int .i64 a.time, .int .i64 a.device, .int .i64 a.signal, .bool a.value, .int .i64 a.quality] 26)
      have hw3 := hw2.trans (hbx.mono hw2.size)
      have hb13 := hb2.trans (hbx.mono hb2.size)
      have EX := EB.new w2 a 26
      have own3 := own_below HS.out.own hb13 (Nat.le_refl _)
      dsimp only [Option.getD_some, Option.isSome_some, Ev.cells]
      go_upto_region 8 with fail
      generalize w2.alloc (Obj.cells #[.int .i64 a.time, .int .i64 a.device, .int .i64 a.signal, .bool a.value, .int .i64 a.quality] 26) = W3 at *
      have HO3 := Lib.hid own3
      obtain ⟨q0, q1, q2, q3, q4⟩ := id EX
      have on1 := ev_one a
      have m1 : l.length + 1 ≤ maxLen := by unfold maxLen; omega
      have m2 : (l.length + 1) * 40 ≤ 140737488355328 := by omega
      have hs3 := hw3.size
      clear own3
      go_wp2_with (at_builtin; refine wpList_push (o := ⟨some 36, _, _, _, _, _⟩) _ _ 22 rfl rfl Tryd.underlying22 hi hz0 hz1 hz2 rfl (by decide) rfl HO3.out hw3 _ rfl rfl rfl on1 m2 m1 hs3 ?_; intro v2 w4 hown2 hbel2 hsz2)
      go_roundw
      case rel =>
        refine ⟨k + 1, k + 1, l ++ [a], by omega, by go_num, by go_num, by simp, Nat.le_refl _, by simp, by simp; omega, ⟨F, hF', ?_⟩, by rw [evCells_append, evCells_one', List.length_append]; exact hown2, hbel2⟩
        rw [HB.out]
        simp
      case measure => simp [intOf]; omega
end Go.Proofs.YtcoablindoknpaaDoor
