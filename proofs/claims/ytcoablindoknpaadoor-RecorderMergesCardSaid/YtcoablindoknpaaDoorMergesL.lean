/-
  The law RecorderMerges: for every three lists of events the call returns true.
-/
import Derived.Test.YtcoablindoknpaaDoorMergeM
import Derived.Test.YtcoablindoknpaaDoorKnown
namespace Go.Proofs.YtcoablindoknpaaDoor
open Go.RowKit

theorem insAll_sorted : ∀ (l S : List Ev), S.Pairwise leE → (insAll S l).Pairwise leE
  | [], _, h => h
  | e :: l, S, h => insAll_sorted l (insE S e) (insE_sorted e S h)
theorem stE_sortedB (l : List Ev) : sortedB (stE l) = true := by
  have hp := insAll_sorted l [] List.Pairwise.nil
  refine sorted_ok ⟨fun i j a b hji hi ha hb => ?_, fun _ _ _ h => absurd h (Nat.not_lt_zero _)⟩
  rw [List.pairwise_iff_getElem] at hp
  obtain ⟨hi', rfl⟩ := List.getElem?_eq_some_iff.1 ha
  obtain ⟨hj', rfl⟩ := List.getElem?_eq_some_iff.1 hb
  exact hp j i hj' hi' hji
theorem rws_three {w : World} {A1 A2 A3 : Option Addr} {c1 c2 c3 B : Nat} {x y z : List Ev} (t : TypeId) (hB : B ≤ w.heap.size) (h1 : Rws EvC 5 w B A1 x.length x) (g1 : x.length ≤ c1) (m1 : c1 ≤ maxLen) (h2 : Rws EvC 5 w B A2 y.length y) (g2 : y.length ≤ c2) (m2 : c2 ≤ maxLen) (h3 : Rws EvC 5 w B A3 z.length z) (g3 : z.length ≤ c3) (m3 : c3 ≤ maxLen) :
    Rws (SliceOf EvC 5) 1 (w.alloc (Obj.cells #[.slice A1 x.length c1, .slice A2 y.length c2, .slice A3 z.length c3] t)) (w.heap.size + 1) (some ⟨w.heap.size, 0, Option.none⟩) 3 [x, y, z] := by
  have hb := (box_below w (Obj.cells #[.slice A1 x.length c1, .slice A2 y.length c2, .slice A3 z.length c3] t)).mono hB
  refine ⟨rfl, fun _ => ⟨w.heap.size, 0, rfl, Nat.lt_succ_self _, fun k v hv => ?_⟩⟩
  have one : ∀ (u : Value) (k : Nat), (w.alloc (Obj.cells #[.slice A1 x.length c1, .slice A2 y.length c2, .slice A3 z.length c3] t)).cell? ⟨w.heap.size, k, Option.none⟩ = some u → (w.alloc (Obj.cells #[.slice A1 x.length c1, .slice A2 y.length c2, .slice A3 z.length c3] t)).rangeAt w.heap.size (0 + k * 1) [u] := by
    intro u k hu j v hv
    have hj : j = 0 := by have := (List.getElem?_eq_some_iff.1 hv).1; simp at this; exact this
    subst hj
    simp only [List.getElem?_cons_zero, Option.some.injEq] at hv
    subst hv
    simpa using hu
  have hk : k < 3 := (List.getElem?_eq_some_iff.1 hv).1
  match k, hk, hv with
  | 0, _, hv => cases hv; exact ⟨_, rfl, ⟨A1, c1, rfl, g1, m1, h1.mono EvC.mono (by omega) hb⟩, one _ 0 (by go_simp)⟩
  | 1, _, hv => cases hv; exact ⟨_, rfl, ⟨A2, c2, rfl, g2, m2, h2.mono EvC.mono (by omega) hb⟩, one _ 1 (by go_simp)⟩
  | 2, _, hv => cases hv; exact ⟨_, rfl, ⟨A3, c3, rfl, g3, m3, h3.mono EvC.mono (by omega) hb⟩, one _ 2 (by go_simp)⟩

set_option maxRecDepth 100000 in
set_option maxHeartbeats 2000000 in
theorem merges_any (A1 A2 A3 : Option Addr) (c1 c2 c3 B : Nat) (x y z : List Ev) (w : World) (T : Tab w) (hB : B ≤ w.heap.size) (h1 : Rws EvC 5 w B A1 x.length x) (g1 : x.length ≤ c1) (m1 : c1 ≤ maxLen) (h2 : Rws EvC 5 w B A2 y.length y) (g2 : y.length ≤ c2) (m2 : c2 ≤ maxLen) (h3 : Rws EvC 5 w B A3 z.length z) (g3 : z.length ≤ c3) (m3 : c3 ≤ maxLen) :
    Calls Tryd.prog 8 #[.slice A1 x.length c1, .slice A2 y.length c2, .slice A3 z.length c3] w (RetBool true w) := by
  have HT := Lib.hid T
  have H1 := Lib.hid h1
  have H2 := Lib.hid h2
  have H3 := Lib.hid h3
  clear T h1 h2 h3
  have F1 := few_any A1 c1 x.length w (by omega)
  have F2 := few_any A2 c2 y.length w (by omega)
  have F3 := few_any A3 c3 z.length w (by omega)
  by_cases f1 : x.length ≤ 60
  case neg =>
    rw [decide_eq_false f1] at F1
    have HF1 := Lib.hid F1
    clear F1 F2 F3
    go_enter Tryd.func8, Tryd.ntmps8
    go_wp2_with fail
    refine HF1.out.mono ?_
    rintro e w2 ⟨rfl, rfl⟩
    go_wp2_with fail
    refine (known_any _ HT.out).mono ?_
    rintro e' w3 ⟨rfl, hb3⟩
    go_wp2
    go_ret
    exact ⟨rfl, hb3⟩
  rw [decide_eq_true f1] at F1
  have HF1 := Lib.hid F1
  by_cases f2 : y.length ≤ 60
  case neg =>
    rw [decide_eq_false f2] at F2
    have HF2 := Lib.hid F2
    clear F1 F2 F3
    go_enter Tryd.func8, Tryd.ntmps8
    go_wp2_with fail
    refine HF1.out.mono ?_
    rintro e w2 ⟨rfl, rfl⟩
    go_wp2_with fail
    refine HF2.out.mono ?_
    rintro e w2 ⟨rfl, rfl⟩
    go_wp2_with fail
    refine (known_any _ HT.out).mono ?_
    rintro e' w3 ⟨rfl, hb3⟩
    go_wp2
    go_ret
    exact ⟨rfl, hb3⟩
  rw [decide_eq_true f2] at F2
  have HF2 := Lib.hid F2
  by_cases f3 : z.length ≤ 60
  case neg =>
    rw [decide_eq_false f3] at F3
    have HF3 := Lib.hid F3
    clear F1 F2 F3
    go_enter Tryd.func8, Tryd.ntmps8
    go_wp2_with fail
    refine HF1.out.mono ?_
    rintro e w2 ⟨rfl, rfl⟩
    go_wp2_with fail
    refine HF2.out.mono ?_
    rintro e w2 ⟨rfl, rfl⟩
    go_wp2_with fail
    refine HF3.out.mono ?_
    rintro e w2 ⟨rfl, rfl⟩
    go_wp2_with fail
    refine (known_any _ HT.out).mono ?_
    rintro e' w3 ⟨rfl, hb3⟩
    go_wp2
    go_ret
    exact ⟨rfl, hb3⟩
  rw [decide_eq_true f3] at F3
  have HF3 := Lib.hid F3
  clear F1 F2 F3
  have hfl : [x, y, z].flatten.length ≤ 1000 := by simp; omega
  have M := fun W (hb : Below w.heap.size w W) => rws_three (t := 22) (Nat.le_trans hB hb.size) (H1.out.mono EvC.mono (Nat.le_refl _) (hb.mono hB)) g1 m1 (H2.out.mono EvC.mono (Nat.le_refl _) (hb.mono hB)) g2 m2 (H3.out.mono EvC.mono (Nat.le_refl _) (hb.mono hB)) g3 m3
  have C1 := merge_any _ 3 _ [x, y, z] _ (by simp) (M w (Below.refl _ _)) (by simp) hfl
  have C2 := fun W hb => rmerge_any _ 3 _ [x, y, z] _ (by simp) (M W hb) (by simp) hfl
  have hst : insAll [] [x, y, z].flatten = stE [x, y, z].flatten := rfl
  rw [hst] at C2
  have hsl := stE_len [x, y, z].flatten
  have hsb := stE_sortedB [x, y, z].flatten
  generalize stE [x, y, z].flatten = S at *
  have hS : S.length ≤ 1000 := by omega
  simp only [List.length_cons, List.length_nil, Nat.zero_add, Nat.reduceAdd] at C1 C2
  have HC1 := Lib.hid C1
  have HC2 := Lib.hid C2
  have HSB := Lib.hid hsb
  clear C1 C2 M hst hsl hfl hsb
  go_enter Tryd.func8, Tryd.ntmps8
  go_wp2_with fail
  refine HF1.out.mono ?_
  rintro e w2 ⟨rfl, rfl⟩
  go_wp2_with fail
  refine HF2.out.mono ?_
  rintro e w2 ⟨rfl, rfl⟩
  go_wp2_with fail
  refine HF3.out.mono ?_
  rintro e w2 ⟨rfl, rfl⟩
  go_wp2_with fail
  refine HC1.out.mono ?_
  rintro e w3 ⟨A4, c4, rfl, hc4, hm4, -, hr4, hb3⟩
  have hbx := box_below w (Obj.cells #[.slice A1 x.length c1, .slice A2 y.length c2, .slice A3 z.length c3] 22)
  have hw3 := hbx.trans (hb3.mono hbx.size)
  have HR4 := Lib.hid hr4
  clear hr4 HC1
  go_wp2_with fail
  refine (known_any _ (HT.out.below hw3)).mono ?_
  rintro e w4 ⟨rfl, hb4⟩
  have hw4 := hw3.trans (hb4.mono hw3.size)
  have hby := box_below w4 (Obj.cells #[.slice A1 x.length c1, .slice A2 y.length c2, .slice A3 z.length c3] 22)
  go_wp2_with fail
  refine (HC2.out w4 hw4).mono ?_
  rintro e w5 ⟨A5, c5, rfl, hc5, hm5, hown5, hb5⟩
  have hw5 := hw4.trans ((hby.trans (hb5.mono hby.size)).mono hw4.size)
  have hb35 := hb4.trans ((hby.trans (hb5.mono hby.size)).mono hb4.size)
  have C := same_any A4 A5 _ _ c4 c5 S w5 (HR4.out.mono EvC.mono (Nat.le_refl _) hb35) (rws_of_ev hown5 rfl) (by omega)
  have HC := Lib.hid C
  clear C hown5 HC2
  go_wp2_with fail
  refine HC.out.mono ?_
  rintro e w6 ⟨rfl, hb6⟩
  have hw6 := hw5.trans (hb6.mono hw5.size)
  have hb36 := hb35.trans (hb6.mono hb35.size)
  have C := sorted_any A4 c4 _ S w6 hb36.size (HR4.out.mono EvC.mono (Nat.le_refl _) hb36) hS
  rw [HSB.out] at C
  have HC3 := Lib.hid C
  clear C HC
  go_wp2_with fail
  refine HC3.out.mono ?_
  rintro e w7 ⟨rfl, hb7⟩
  have hw7 := hw6.trans (hb7.mono hw6.size)
  have C := merge_any Option.none 0 0 [] w7 (Nat.zero_le _) (rws_none _ _ _ _ _) (by simp) (by simp)
  rw [show stE ([] : List (List Ev)).flatten = [] from rfl] at C
  simp only [List.length_nil] at C
  have HC4 := Lib.hid C
  clear C HC3
  go_wp2_with fail
  refine HC4.out.mono ?_
  rintro e w8 ⟨A8, c8, rfl, -, -, -, -, hb8⟩
  dsimp only [List.length_nil]
  go_wp2
  go_ret
  exact ⟨rfl, hw7.trans (hb8.mono hw7.size)⟩
end Go.Proofs.YtcoablindoknpaaDoor
