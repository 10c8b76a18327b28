/-
  The law RecorderParses: for every text the call returns true.
-/
import Derived.Test.YtcoablindoknpaaDoorRParse
import Derived.Test.YtcoablindoknpaaDoorKnown
namespace Go.Proofs.YtcoablindoknpaaDoor
open Go.RowKit

theorem fmt_ge (es : List Ev) : es.length ≤ (fmtS es).length := by
  induction es with
  | nil => simp
  | cons e es ih =>
    have ht : fmtS (e :: es) = lineS e ++ 10 :: fmtS es := by simp [fmtS]
    rw [ht, List.length_append, List.length_cons, List.length_cons]
    omega
theorem parse_len {t : List UInt8} {m : List Ev} {a : Int} (h : parseP t = (m, a, 0)) : m.length ≤ t.length := by
  obtain ⟨es, hm, ht, hg⟩ := parse_back _ _ _ _ _ _ (Nat.lt_succ_self _) h
  rw [List.nil_append] at hm
  rw [hm, ht]
  exact fmt_ge es

set_option maxRecDepth 100000 in
set_option maxHeartbeats 4000000 in
theorem parses_any (text : List UInt8) (w : World) (T : Tab w) (M : Mx w) (hm : text.length ≤ maxLen) :
    Calls Tryd.prog 7 #[.string ⟨text.toArray⟩] w (RetBool true w) := by
  have HT := Lib.hid T
  have HM := Lib.hid M
  clear T M
  unfold maxLen at hm
  by_cases hfew : text.length ≤ 600
  case neg =>
    have d0 : (600 : Int) < (text.length : Int) := by omega
    go_enter Tryd.func7, Tryd.ntmps7
    go_wp2_with fail
    refine (known_any _ HT.out).mono ?_
    rintro e' w3 ⟨rfl, hb3⟩
    go_wp2
    go_ret
    exact ⟨rfl, hb3⟩
  have d0 : ¬ (600 : Int) < (text.length : Int) := by omega
  have C1 := parse_any text (by omega) w HT.out HM.out
  have C2 := fun W => rparse_any text (by omega) W
  have hf : (parseP text).2.2 = 0 → formatS (parseP text).1 = text ∧ (parseP text).1.length ≤ text.length := fun h => by
    have h2 : parseP text = ((parseP text).1, (parseP text).2.1, 0) := by rw [← h]
    exact ⟨format_parse h2, parse_len h2⟩
  generalize parseP text = p at *
  obtain ⟨m, at0, er⟩ := p
  dsimp only at hf
  have HC1 := Lib.hid C1
  have HC2 := Lib.hid C2
  have HF := Lib.hid hf
  clear C1 C2 hf
  go_enter Tryd.func7, Tryd.ntmps7
  go_wp2_with fail
  refine HC1.out.mono ?_
  rintro e' w1 ⟨A1, c1, rfl, hc1, hm1, hr1, hb1⟩
  dsimp only at hc1 ⊢
  go_wp2_with fail
  refine (HC2.out _).mono ?_
  rintro e' w2 ⟨A2, c2, rfl, hc2, hm2, hr2, hb2⟩
  dsimp only at hc2 ⊢
  have hw2 := hb1.trans (hb2.mono hb1.size)
  have HR1 := Lib.hid (hr1.mono EvC.mono (Nat.le_refl _) hb2)
  have HR2 := Lib.hid hr2
  clear hr1 hr2 HC1 HC2
  go_wp2_with fail
  refine (known_any _ (HT.out.below hw2)).mono ?_
  rintro e' w3 ⟨rfl, hb3⟩
  have hw3 := hw2.trans (hb3.mono hw2.size)
  have C := same_any A1 A2 _ _ c1 c2 m w3 (HR1.out.mono EvC.mono (Nat.le_refl _) (hb3.mono hb2.size)) (HR2.out.mono EvC.mono (Nat.le_refl _) hb3) (by omega)
  have HC := Lib.hid C
  clear C
  go_wp2_with fail
  refine HC.out.mono ?_
  rintro e' w4 ⟨rfl, hb4⟩
  have hw4 := hw3.trans (hb4.mono hw3.size)
  by_cases her : er = 0
  · obtain ⟨h1, h2⟩ := HF.out her
    subst her
    have hb24 := hb3.trans (hb4.mono hb3.size)
    have C := format_any A1 c1 _ m w4 (HT.out.below hw4) (Nat.le_trans hb2.size hb24.size) (HR1.out.mono EvC.mono (Nat.le_refl _) (hb24.mono hb2.size)) (by omega)
    rw [h1] at C
    have HC := Lib.hid C
    clear C h1
    go_wp2_with fail
    refine HC.out.mono ?_
    rintro e' w5 ⟨rfl, hb5⟩
    go_wp2
    go_ret
    exact ⟨rfl, hw4.trans (hb5.mono hw4.size)⟩
  · have e1 : (er != 0) = true := by simpa using her
    go_wp2
    go_ret
    exact ⟨rfl, hw4⟩
end Go.Proofs.YtcoablindoknpaaDoor
