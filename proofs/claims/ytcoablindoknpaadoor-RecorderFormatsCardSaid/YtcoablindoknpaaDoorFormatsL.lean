/-
  The law RecorderFormats: for every list of events the call returns true.
-/
import Derived.Test.YtcoablindoknpaaDoorTextP
import Derived.Test.YtcoablindoknpaaDoorRText
import Derived.Test.YtcoablindoknpaaDoorKnown
namespace Go.Proofs.YtcoablindoknpaaDoor
open Go.RowKit

def FlR (W : World) (es : List Ev) (g i : Value) (wr : World) : Prop := ∃ k : Nat, k ≤ es.length ∧ i = .int .i64 k ∧ g = .bool (allGoodB (es.take k)) ∧ Below W.heap.size W wr
theorem allGoodB_succ {es : List Ev} {k : Nat} {e : Ev} (h : es[k]? = some e) : allGoodB (es.take (k + 1)) = (allGoodB (es.take k) && goodB e) := by
  rw [List.take_add_one, h]
  simp [allGoodB]
theorem formatS_len (es : List Ev) (h : es.length ≤ 60) : (formatS es).length ≤ 1860 := by
  unfold formatS
  split
  · rename_i hg
    have := fmt_len (es := es) (k := es.length) (Nat.le_refl _) (fun j e _ he => by unfold allGoodB at hg; exact List.all_eq_true.1 hg e (List.mem_of_getElem? he))
    rw [List.take_length] at this
    omega
  · simp

set_option maxRecDepth 100000 in
set_option maxHeartbeats 4000000 in
theorem formats_any (A : Option Addr) (c B : Nat) (es : List Ev) (w : World) (T : Tab w) (M : Mx w) (hB : B ≤ w.heap.size) (hr : Rws EvC 5 w B A es.length es) (hm : es.length ≤ maxLen) :
    Calls Tryd.prog 6 #[.slice A es.length c] w (RetBool true w) := by
  have HT := Lib.hid T
  have HM := Lib.hid M
  have HR := Lib.hid hr
  clear T M hr
  go_enter Tryd.func6, Tryd.ntmps6
  go_wp2_with fail
  refine (few_any A c es.length _ hm).mono ?_
  rintro e' w2 ⟨rfl, rfl⟩
  by_cases hfew : es.length ≤ 60
  case neg =>
    have d0 : decide (es.length ≤ 60) = false := by simpa using hfew
    go_wp2_with fail
    refine (known_any _ HT.out).mono ?_
    rintro e' w3 ⟨rfl, hb3⟩
    go_wp2
    go_ret
    exact ⟨rfl, hb3⟩
  have d0 : decide (es.length ≤ 60) = true := by simpa using hfew
  have C1 := format_any A c B es w HT.out hB HR.out (by omega)
  have hfl := formatS_len es hfew
  obtain ⟨p, hp, hpl, hp1, hp2, hps⟩ : ∃ p, parseP (formatS es) = p ∧ p.1.length ≤ 60 ∧ p.2.1 = 0 ∧ p.2.2 = 0 ∧ (allGoodB es = true → p.1 = es) := by
    cases hg : allGoodB es with
    | true => exact ⟨_, parse_format es hg, hfew, rfl, rfl, fun _ => rfl⟩
    | false => exact ⟨_, parse_empty es hg, by simp, rfl, rfl, fun h => by cases h⟩
  have C2 := fun W hb => parse_any (formatS es) (by omega) W (HT.out.below hb) (HM.out.below hb)
  rw [hp] at C2
  obtain ⟨m, at0, er⟩ := p
  dsimp only at hpl hp1 hp2 hps
  subst hp1
  subst hp2
  have C3 := fun W (hb : Below w.heap.size w W) => rformat_any A c B es W (by have := hb.size; omega) (HR.out.mono EvC.mono (Nat.le_refl _) (hb.mono hB)) (by omega)
  generalize formatS es = fs at *
  have HC1 := Lib.hid C1
  have HC2 := Lib.hid C2
  have HC3 := Lib.hid C3
  have HPS := Lib.hid hps
  clear C1 C2 C3 hp hps
  go_wp2_with fail
  refine HC1.out.mono ?_
  rintro e' w1 ⟨rfl, hb1⟩
  go_wp2_with fail
  refine (HC2.out _ hb1).mono ?_
  rintro e' w2 ⟨A2, c2, rfl, hc2, hm2, hr2, hb2⟩
  have hw2 := hb1.trans (hb2.mono hb1.size)
  have hs2 := hw2.size
  have HR2 := Lib.hid hr2
  clear hr2
  dsimp only at hc2 ⊢
  go_wp2_with fail
  go_loopw [7, 24] (FlR w2 es) (fun _ i _ => es.length - (intOf i).toNat)
  case atStart => exact ⟨0, Nat.zero_le _, rfl, rfl, Below.refl _ _⟩
  case round =>
    obtain ⟨k, hk, rfl, rfl, hbel⟩ := hrel
    have hsz := hbel.size
    have hbw := hw2.trans (hbel.mono hs2)
    by_cases hlt : k < es.length
    · obtain ⟨b, o, x, rfl, hbB, hx, E0⟩ := evAt HR.out hlt
      obtain ⟨r0, r1, r2, r3, r4⟩ := E0.below (hbw.mono hB) hbB
      have hbx := box_below wr (Obj.cells #[.int .i64 x.time, .int .i64 x.device, .int .i64 x.signal, .bool x.value, .int .i64 x.quality] 26)
      have HA := Lib.hid (allGoodB_succ hx)
      have CG := fun W => rgood_any x W
      unfold Ev.cells at CG
      generalize goodB x = gx at *
      have HCG := Lib.hid CG
      generalize allGoodB (es.take k) = ga at *
      have hb0x := hbel.trans (hbx.mono hsz)
      clear hx CG
      cases ga with
      | false =>
        go_wp2
        go_roundw
        case rel => exact ⟨k + 1, by omega, by go_num, by rw [HA.out]; rfl, hb0x⟩
        case measure => simp [intOf]; omega
      | true =>
        go_wp2_with fail
        refine (HCG.out _).mono ?_
        rintro e' w5 ⟨rfl, hb5⟩
        have hb05 := hb0x.trans (hb5.mono hb0x.size)
        clear r0 r1 r2 r3 r4
        go_wp2
        go_roundw
        case rel => exact ⟨k + 1, by omega, by go_num, by rw [HA.out]; rfl, hb05⟩
        case measure => simp [intOf]; omega
    · obtain rfl : k = es.length := by omega
      rw [List.take_length]
      go_wp2_with fail
      refine (known_any _ (HT.out.below hbw)).mono ?_
      rintro e' w6 ⟨rfl, hb6⟩
      have hw6 := hbw.trans (hb6.mono hbw.size)
      go_wp2_with fail
      refine (HC3.out _ hw6).mono ?_
      rintro e' w7 ⟨rfl, hb7⟩
      have hw7 := hw6.trans (hb7.mono hw6.size)
      have hb27 := hbel.trans ((hb6.trans (hb7.mono hb6.size)).mono hsz)
      have hs7 := hw7.size
      cases hag : allGoodB es with
      | false =>
        clear HPS hag
        go_wp2
        go_ret
        exact ⟨rfl, hw7⟩
      | true =>
        have hmes := HPS.out hag
        subst hmes
        have C := same_any A A2 B _ c c2 m w7 (HR.out.mono EvC.mono (Nat.le_refl _) (hw7.mono hB)) (HR2.out.mono EvC.mono (Nat.le_refl _) hb27) (by unfold maxLen; omega)
        have HC := Lib.hid C
        clear C HPS hag
        go_wp2_with fail
        refine HC.out.mono ?_
        rintro e' w8 ⟨rfl, hb8⟩
        go_wp2
        go_ret
        exact ⟨rfl, hw7.trans (hb8.mono hs7)⟩
end Go.Proofs.YtcoablindoknpaaDoor
