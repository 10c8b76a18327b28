/-
  Parse of the program, over any text of bounded length.
-/
import Derived.Test.YtcoablindoknpaaDoorEvent
namespace Go.Proofs.YtcoablindoknpaaDoor
open Go.RowKit

def parseF : Nat → List Ev → Int → List UInt8 → List Ev × Int × Int
  | 0, _, _, _ => ([], 0, 0)
  | f + 1, l, n, t => if t = [] then (l, 0, 0) else
    match evP (Lib.cut t [10]).1 with
    | Option.none => ([], n, 6)
    | some e => if (Lib.cut t [10]).2.2 then parseF f (l ++ [e]) (n + 1) (Lib.cut t [10]).2.1 else ([], n, 6)
def parseP (t : List UInt8) : List Ev × Int × Int := parseF (t.length + 1) [] 0 t
theorem parseF_nil (f : Nat) (l : List Ev) (n : Int) : parseF (f + 1) l n [] = (l, 0, 0) := by simp [parseF]
theorem parseF_bad1 {f : Nat} {l : List Ev} {n : Int} {t : List UInt8} (h : t ≠ []) (hc : (Lib.cut t [10]).2.2 = false) : parseF (f + 1) l n t = ([], n, 6) := by
  simp only [parseF, h, if_false, hc, Bool.false_eq_true]
  split <;> rfl
theorem parseF_bad2 {f : Nat} {l : List Ev} {n : Int} {t : List UInt8} (h : t ≠ []) (hc : evP (Lib.cut t [10]).1 = Option.none) : parseF (f + 1) l n t = ([], n, 6) := by
  simp only [parseF, h, if_false, hc]
theorem parseF_step {f : Nat} {l : List Ev} {n : Int} {t : List UInt8} {e : Ev} (h : t ≠ []) (hc : (Lib.cut t [10]).2.2 = true) (he : evP (Lib.cut t [10]).1 = some e) : parseF (f + 1) l n t = parseF f (l ++ [e]) (n + 1) (Lib.cut t [10]).2.1 := by
  simp only [parseF, h, if_false, hc, he, if_true]
theorem cut_less {t : List UInt8} (hc : (Lib.cut t [10]).2.2 = true) : (Lib.cut t [10]).2.1.length < t.length := by
  unfold Lib.cut at hc ⊢
  split
  · rename_i h
    have := Lib.index_room t [10] h
    simp only [List.length_drop, List.length_singleton] at this ⊢
    omega
  · rename_i h
    rw [if_neg h] at hc
    cases hc

/-- A list, a line's number and an error are returned; old memory is as it was. -/
def RetParse (p : List Ev × Int × Int) (w : World) (e : Ending) (w' : World) : Prop :=
  ∃ A c, e = .returned (.tuple #[.slice A p.1.length c, .int .i64 p.2.1, .int .i64 p.2.2]) ∧ p.1.length ≤ c ∧ c ≤ maxLen ∧ Rws EvC 5 w' w'.heap.size A p.1.length p.1 ∧ Below w.heap.size w w'
theorem RetParse.bad {w w' : World} (n : Int) (hb : Below w.heap.size w w') : RetParse ([], n, 6) w (.returned (.tuple #[.slice Option.none 0 0, .int .i64 n, .int .i64 6])) w' :=
  ⟨Option.none, 0, rfl, Nat.le_refl _, Nat.zero_le _, rws_none _ _ _ _ _, hb⟩
def strLen : Value → Nat
  | .string s => s.size
  | _ => 0
def PaR (w : World) (text : List UInt8) (t v n : Value) (wr : World) : Prop :=
  ∃ (l : List Ev) (r : List UInt8) (f : Nat), t = .string ⟨r.toArray⟩ ∧ n = .int .i64 l.length ∧ l.length + r.length ≤ text.length ∧ r.length < f ∧ parseP text = parseF f l l.length r ∧ wr.ownsRow w.heap.size 26 5 v l.length (evCells l) ∧ Below w.heap.size w wr

set_option maxRecDepth 100000 in
set_option maxHeartbeats 4000000 in
theorem parse_any (text : List UInt8) (ht : text.length ≤ 2000) (w : World) (T : Tab w) (M : Mx w) : Calls Tryd.prog 28 #[.string ⟨text.toArray⟩] w (RetParse (parseP text) w) := by
  have HT := Lib.hid T
  have HM := Lib.hid M
  clear T M
  obtain ⟨i0, hi, hz0, hz1, hz2⟩ := info_parts infoEv
  go_enter Tryd.func28, Tryd.ntmps28
  go_wp2
  go_loopw [0, 2, 5] (PaR w text) (fun t _ _ _ => strLen t)
  case atStart => exact ⟨[], text, text.length + 1, rfl, rfl, by simp, Nat.lt_succ_self _, rfl, World.ownsRow_nil _ _ _ _, Below.refl _ _⟩
  case round =>
    obtain ⟨l, r, f, rfl, rfl, hlr, hrf, hp, hown, hbel⟩ := hrel
    obtain ⟨f, rfl⟩ : ∃ f', f = f' + 1 := ⟨f - 1, by omega⟩
    have hsz := hbel.size
    by_cases hr : r = []
    · subst hr
      rw [parseF_nil] at hp
      have HP := Lib.hid hp
      obtain ⟨A, c, rfl, hc, hm⟩ := own_shape hown
      have HRw := Lib.hid (rws_of_ev hown rfl)
      clear hp hown
      go_wp2
      refine bodyPost_ret (v := .tuple #[.slice A l.length c, .int .i64 0, .int .i64 0]) (by simp [results, Tryd.results28, go_sem]) rfl ?_
      rw [HP.out]
      exact ⟨A, c, rfl, hc, hm, HRw.out, hbel⟩
    have hE : r.isEmpty = false := by simpa using hr
    have C1 := cut_any r [10] (by omega) wr (HM.out.below hbel)
    have hl := cut_len r [10]
    have b1 := fun h => hp.trans (parseF_bad1 (f := f) (l := l) (n := l.length) hr h)
    have b2 := fun h => hp.trans (parseF_bad2 (f := f) (l := l) (n := l.length) hr h)
    have b3 := fun e h1 h2 => hp.trans (parseF_step (f := f) (l := l) (n := l.length) (e := e) hr h1 h2)
    have hls := cut_less (t := r)
    generalize Lib.cut r [10] = c1 at *
    obtain ⟨a, rest, en⟩ := c1
    dsimp only at hl b1 b2 b3 hls
    have C2 := fun W hb => event_any a (by omega) W (HT.out.below hb) (HM.out.below hb)
    have HO := Lib.hid hown
    have HC1 := Lib.hid C1
    clear C1 hp hown
    cases hev : evP a with
    | none =>
      rw [hev] at C2
      have HB := Lib.hid (b2 hev)
      have HC2 := Lib.hid C2
      clear C2 b1 b2 b3 hev hls
      go_wp2_with fail
      refine HC1.out.mono ?_
      rintro e w1 ⟨rfl, hb1⟩
      have hw1 := hbel.trans (hb1.mono hsz)
      go_wp2_with fail
      refine (HC2.out _ hw1).mono ?_
      rintro e w2 ⟨rfl, hb2⟩
      have hw2 := hw1.trans (hb2.mono hw1.size)
      have hw3 := hw2.trans ((box_below w2 (Obj.cells #[.int .i64 0, .int .i64 0, .int .i64 0, .bool false, .int .i64 0] 26)).mono hw2.size)
      dsimp only [Option.getD_none, Option.isSome_none, zeroEv, Ev.cells]
      cases en
      all_goals (go_wp2; refine bodyPost_ret (v := .tuple #[.slice Option.none 0 0, .int .i64 l.length, .int .i64 6]) (by simp [results, Tryd.results28, go_sem]) rfl ?_; rw [HB.out]; exact RetParse.bad _ hw3)
    | some x =>
      rw [hev] at C2
      have HC2 := Lib.hid C2
      have b3' := fun h => b3 x h hev
      clear C2 b2 b3
      go_wp2_with fail
      refine HC1.out.mono ?_
      rintro e w1 ⟨rfl, hb1⟩
      have hw1 := hbel.trans (hb1.mono hsz)
      go_wp2_with fail
      refine (HC2.out _ hw1).mono ?_
      rintro e w2 ⟨rfl, hb2⟩
      have hb12 := hb1.trans (hb2.mono hb1.size)
      have hw2 := hw1.trans (hb2.mono hw1.size)
      have hbx := box_below w2 (Obj.cells #[.int .i64 x.time, .int .i64 x.device, .int .i64 x.signal, .bool x.value, .int .i64 x.quality] 26)
      have hw3 := hw2.trans (hbx.mono hw2.size)
      have hb13 := hb12.trans (hbx.mono hb12.size)
      have EX := EB.new w2 x 26
      have own3 := own_below HO.out hb13 (Nat.le_refl _)
      dsimp only [Option.getD_some, Option.isSome_some, Ev.cells]
      go_upto_region 6 with fail
      generalize w2.alloc (Obj.cells #[.int .i64 x.time, .int .i64 x.device, .int .i64 x.signal, .bool x.value, .int .i64 x.quality] 26) = W3 at *
      have HO3 := Lib.hid own3
      obtain ⟨q0, q1, q2, q3, q4⟩ := id EX
      cases en with
      | false =>
        have HB := Lib.hid (b1 rfl)
        clear b1 b3' own3 hev hls
        go_wp2
        refine bodyPost_ret (v := .tuple #[.slice Option.none 0 0, .int .i64 l.length, .int .i64 6]) (by simp [results, Tryd.results28, go_sem]) rfl ?_
        rw [HB.out]
        exact RetParse.bad _ hw3
      | true =>
        have HB := Lib.hid (b3' rfl)
        have hls' := hls rfl
        have on1 := ev_one x
        have m1 : l.length + 1 ≤ maxLen := by unfold maxLen; omega
        have m2 : (l.length + 1) * 40 ≤ 140737488355328 := by omega
        have hs3 := hw3.size
        clear b1 b3' own3 hev hls
        go_wp2_with (at_builtin; refine wpList_push (o := ⟨some 36, _, _, _, _, _⟩) _ _ 22 rfl rfl Tryd.underlying22 hi hz0 hz1 hz2 rfl (by decide) rfl HO3.out hw3 _ rfl rfl rfl on1 m2 m1 hs3 ?_; intro v2 w4 hown2 hbel2 hsz2)
        go_roundw
        case rel =>
          refine ⟨l ++ [x], rest, f, rfl, by simp, by simp; omega, by omega, ?_, by rw [evCells_append, evCells_one', List.length_append]; exact hown2, hbel2⟩
          rw [HB.out]
          simp
        case measure => simp [strLen, ByteArray.size]; omega
end Go.Proofs.YtcoablindoknpaaDoor
