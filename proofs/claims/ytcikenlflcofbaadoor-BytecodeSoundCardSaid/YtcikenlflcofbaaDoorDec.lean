/-
  bytecode.Decompile.
-/
import Derived.Test.YtcikenlflcofbaaDoorDeP
import Derived.Test.YtcikenlflcofbaaDoorVfJ
import Derived.Test.YtcikenlflcofbaaDoorRulW
import Derived.Deep.DeepCutAuto
namespace Go.Proofs.YtcikenlflcofbaaDoor
open Go.RowKit

/-- What Decompile has put together so far. -/
def DeL (W : World) (base : Nat) (p : Pg) (m : Int) (F : List Ex) (g : Nat) (v6 v7 v25 : Value) (wr : World) : Prop :=
  ∃ (k : Nat) (l st : List Ex) (T6 T7 : Nat → Prop) (v : Vs) (most : Int), k ≤ p.code.length ∧ p.code.length - k < g ∧ v25 = .int .i64 (k : Int) ∧ runG p (p.code.drop k) k v most = (0, m, 0) ∧ v.st.length = st.length ∧ st.length ≤ 24 ∧ l.length ≤ k ∧
    decG p (p.code.drop k) l st = F ∧ XOwn wr base T6 v6 l ∧ XOwn wr base T7 v7 st ∧ (∀ q, v7.ownBlock = some q → ¬ T6 q ∧ v6.ownBlock ≠ some q) ∧ (∀ q, v6.ownBlock = some q → ¬ T7 q) ∧ Below base W wr
def RetDec (p : Pg) (w : World) (e : Ending) (w' : World) : Prop :=
  ∃ A c, e = .returned (.tuple #[.slice A (decP p).1.length c, .int .i64 (decP p).2]) ∧ (decP p).1.length ≤ c ∧ c ≤ maxLen ∧ Rw ExV 4 w' (New w w') A (decP p).1.length (decP p).1 ∧ Below w.heap.size w w'

set_option maxRecDepth 100000 in
set_option maxHeartbeats 8000000 in
theorem Dec_any {w : World} {p : Pg} {l : Pl} (hpg : PgI w (Old w) p l) : Calls Tryd.prog 15 #[pgV p l] w (RetDec p w) := by
  obtain ⟨B1, k1, B2, k2, B3, k3, B4, k4⟩ := l
  have hb1 := box_below w (Obj.cells (pgC p ⟨B1, k1, B2, k2, B3, k3, B4, k4⟩) 32)
  have hx0 := heap_alloc_new w (Obj.cells (pgC p ⟨B1, k1, B2, k2, B3, k3, B4, k4⟩) 32)
  have hs1 := World.size_alloc w (Obj.cells (pgC p ⟨B1, k1, B2, k2, B3, k3, B4, k4⟩) 32)
  have HC := Lib.hid (Verify_any (hpg.below hb1))
  have HPG := Lib.hid hpg
  have HB1 := Lib.hid hb1
  have HX0 := Lib.hid hx0
  have HS1 := Lib.hid hs1
  obtain ⟨va, vm, ve, hvp⟩ : ∃ a b c, verP p = (a, b, c) := ⟨_, _, _, rfl⟩
  have HVP := Lib.hid hvp
  rw [hvp] at HC
  clear hb1 hx0 hs1 hpg hvp
  go_enter Tryd.func15, Tryd.ntmps15
  go_wp2_with fail
  refine HC.out.mono ?_
  rintro e w1 ⟨rfl, hb2⟩
  dsimp only
  have HB2 := Lib.hid (below_two HB1.out hb2 HB1.out.size)
  by_cases hve : ve = 0
  case neg =>
    have hvb : (ve != 0) = true := by simpa using hve
    have HE := Lib.hid (show decP p = ([], ve) by unfold decP; rw [HVP.out]; rw [if_pos hve])
    clear hve hb2
    go_wp2
    go_ret2
    refine ⟨Option.none, 0, by rw [HE.out]; rfl, by rw [HE.out]; exact Nat.le_refl _, Nat.zero_le _, ?_, HB2.out⟩
    rw [HE.out]
    exact Rw.nil
  subst hve
  have HV := Lib.hid (show (verP p).2.2 = 0 by rw [HVP.out])
  obtain ⟨m, hrun⟩ := ver_run HV.out
  have HRUN := Lib.hid hrun
  obtain ⟨hi64, hr16, hc64, hcd⟩ := ver_small HV.out
  have hbx := (hb2.block w.heap.size (by rw [HS1.out]; omega)).trans HX0.out
  have q3 : w1.cell? ⟨w.heap.size, 3, Option.none⟩ = some (.slice B4 p.code.length k4) := by simp [World.cell?, hbx]
  have hl1 : w.heap.size < w1.heap.size := by have := hb2.size; rw [HS1.out] at this; omega
  have HBX := Lib.hid hbx
  obtain ⟨F, hF⟩ : ∃ F, decG p p.code [] [] = F := ⟨_, rfl⟩
  have HF := Lib.hid hF
  clear hb2 hbx hrun hF HC
  go_wp2
  go_loopg [6, 7, 25] (p.code.length + 1) (fun g v6 v7 v25 wr => DeL w1 w1.heap.size p m F g v6 v7 v25 wr)
  case atStart => exact ⟨0, [], [], _, _, ⟨[], 0, 0⟩, 0, Nat.zero_le _, by omega, rfl, by rw [List.drop_zero]; exact HRUN.out, rfl, Nat.zero_le _, Nat.le_refl _, by rw [List.drop_zero]; exact HF.out, XOwn.nil _ _, XOwn.nil _ _, (fun q h => by cases h), (fun q h => by cases h), Below.refl _ _⟩
  case round =>
    obtain ⟨k, l, st, T6, T7, v, most, hk, hgk, rfl, hru, hvs, h24, hlk, hde, hl6, hl7, hap, hap2, hbel⟩ := hrel
    obtain ⟨A6, c6, rfl, hc6, hm6⟩ := hl6.shape
    obtain ⟨A7, c7, rfl, hc7, hm7⟩ := hl7.shape
    have hsr := hbel.size
    have hkp : KeepOn (Old w) w wr := fun b hb => by
      have hb' : b < w.heap.size := hb
      exact (hbel.block b (by omega)).trans (HB2.out.block b hb')
    by_cases hlt : k < p.code.length
    case neg =>
      obtain rfl : k = p.code.length := by omega
      rw [List.drop_length] at hde
      have hdl : decG p p.code [] [] = l := HF.out.trans hde.symm
      have hdp : decP p = if l.all validP = true then (l, 0) else ([], 17) := by
        unfold decP
        rw [if_neg (by rw [HV.out]; decide), hdl]
      have HDP := Lib.hid hdp
      have HL6 := Lib.hid hl6
      have HB := Lib.hid (below_two HB2.out hbel HB2.out.size)
      clear hru hde hdl hdp hl7 hm7 hap hap2 hkp hbel hvs HF HRUN
      go_wp2
      go_loopg [61] (l.length + 1) (fun g v wq => DvR wr l g v wq)
      case atStart => exact ⟨0, Nat.zero_le _, by omega, rfl, fun i x h _ => absurd h (Nat.not_lt_zero _), Below.refl _ _⟩
      case round =>
        rename World => wq
        obtain ⟨j, hj, hgj, rfl, hall, hbq⟩ := hrel
        have HBQ := Lib.hid (below_two HB.out hbq HB.out.size)
        have HOQ := Lib.hid (HL6.out.below hbq (Nat.le_refl _))
        by_cases hjl : j < l.length
        case neg =>
          obtain rfl : j = l.length := by omega
          have hA : l.all validP = true := List.all_eq_true.2 fun x hx => by
            obtain ⟨i, hi⟩ := List.getElem?_of_mem hx
            exact hall i x (List.getElem?_eq_some_iff.1 hi).1 hi
          have hdp := HDP.out
          rw [if_pos hA] at hdp
          have HDP2 := Lib.hid hdp
          clear hdp hA hall hbq hjl
          go_wp2
          go_ret2
          refine ⟨A6, c6, by rw [HDP2.out]; rfl, by rw [HDP2.out]; exact hc6, hm6, ?_, HBQ.out⟩
          rw [HDP2.out]
          exact HOQ.out.rw rfl fun b h1 h2 => ⟨by have := HB2.out.size; omega, h2⟩
        obtain ⟨b, o, op, m, nm, A5, c5, ys, hA, hSb, hx, hyc, hym, hyp, hyr, hxb⟩ := exAt (HOQ.out.rw (S := fun b => b < wq.heap.size) rfl fun b _ h => h) hjl
        subst hA
        obtain ⟨e0, e1, e2, e3⟩ := hxb
        have hbw := box_below wq (Obj.cells #[.int .i64 op, .int .i64 m, .string ⟨nm.toArray⟩, .slice A5 ys.length c5] 49)
        have hX := XV.new wq op m nm A5 ys.length c5
        have C3 := Valid_any op m nm A5 c5 ys (wq.alloc (Obj.cells #[.int .i64 op, .int .i64 m, .string ⟨nm.toArray⟩, .slice A5 ys.length c5] 49)) hyc hym hyp (hyr.mono ExV.mono (fun b q => Nat.lt_of_lt_of_le q hbw.size) (keepOn_below hbw fun b q => q))
        unfold exV at C3
        have HC3 := Lib.hid C3
        have HBW := Lib.hid (below_two HBQ.out hbw HBQ.out.size)
        have HBW2 := Lib.hid (below_two hbq hbw hbq.size)
        have HX := Lib.hid hx
        have HALL := Lib.hid hall
        obtain ⟨x0, x1, x2, x3, -, -, -, -⟩ := hX.cells
        clear hx hbw C3 hX hbq hyr hall
        generalize hq : validP (.mk op m nm ys) = q at *
        have HQ := Lib.hid hq
        clear hq
        go_wp2_with fail
        refine HC3.out.mono ?_
        rintro e w3 ⟨rfl, hb3⟩
        have HB3 := Lib.hid (below_two HBW.out hb3 HBW.out.size)
        have HB4 := Lib.hid (below_two HBW2.out hb3 HBW2.out.size)
        clear hb3 HC3
        cases q with
        | true =>
          go_wp2
          go_roundg (l.length - j)
          case measure => omega
          case rel => exact ⟨j + 1, by omega, by omega, by go_num, fun i x hi hx => by
            rcases Nat.lt_succ_iff_lt_or_eq.1 hi with h' | rfl
            · exact HALL.out i x h' hx
            · rw [HX.out] at hx; injection hx with hx; rw [← hx]; exact HQ.out, HB4.out⟩
        | false =>
          have hA : ¬ l.all validP = true := fun h => by
            have := List.all_eq_true.1 h _ (List.mem_of_getElem? HX.out)
            rw [HQ.out] at this
            cases this
          have hdp := HDP.out
          rw [if_neg hA] at hdp
          have HDP2 := Lib.hid hdp
          clear hdp hA
          go_wp2
          go_ret2
          refine ⟨Option.none, 0, by rw [HDP2.out]; rfl, by rw [HDP2.out]; exact Nat.le_refl _, Nat.zero_le _, ?_, HB3.out⟩
          rw [HDP2.out]
          exact Rw.nil
    obtain ⟨b, o, c, hA, hSb, hx, y0, y1⟩ := inAt (HPG.out.r4.mono InC.mono (fun _ q => q) hkp) hlt
    have hA2 : B4 = some ⟨b, o, Option.none⟩ := hA
    subst hA2
    have hget : p.code[k] = c := by
      rw [List.getElem?_eq_getElem hlt] at hx
      injection hx
    rw [List.drop_eq_getElem_cons hlt, hget] at hru hde
    obtain ⟨v', hst, hru'⟩ := run_next hru
    have hnm := step_nm HV.out hst
    rw [decG_cons] at hde
    obtain ⟨ho0, -, hol, kk, -, hv'⟩ := step_inv hst
    have hbk : b < wr.heap.size := by have q' : b < w.heap.size := hSb; have := HB2.out.size; omega
    obtain ⟨op, a⟩ := c
    dsimp only at y0 y1 hol ho0
    have hbi := box_below wr (Obj.cells #[.int .i64 op, .int .i64 a] 37)
    obtain ⟨ti, hti, hzi⟩ := Option.map_eq_some_iff.1 infoX
    obtain ⟨hz0, hz1, hz2⟩ : ti.zero = some (.agg #[.int .i64 0, .int .i64 0, .string ⟨#[]⟩, .slice Option.none 0 0]) ∧ ti.size = 4 ∧ ti.bytes = 56 := by simpa using hzi
    have HTI := Lib.hid (And.intro hti (And.intro hz0 (And.intro hz1 hz2)))
    clear hti hzi hz0 hz1 hz2
    have HBEL0 := Lib.hid hbel
    rcases hv' with ⟨h32, hr0, rfl⟩ | ⟨hn32, hr1, rfl⟩
    · dsimp only at h32
      subst h32
      rw [if_pos rfl] at hde
      have hs1 : st.length = 1 := by
        have e1 : (opnP 32).toNat = 1 := rfl
        unfold restN at hr0
        dsimp only at hr0
        rw [e1] at hr0 hol
        omega
      obtain ⟨x, rfl⟩ : ∃ x, st = [x] := by
        match st, hs1 with
        | [x], _ => exact ⟨x, rfl⟩
      have h6 := hl6.below hbi (Nat.le_refl _)
      have h7 := hl7.below hbi (Nat.le_refl _)
      obtain ⟨ls6, hls6, hown6, hvs6, hT6⟩ := h6
      obtain ⟨ls7, hls7, hown7, hvs7, hT7⟩ := h7
      obtain ⟨l7, rfl⟩ : ∃ x, ls7 = [x] := by
        match ls7, hls7 with
        | [x], _ => exact ⟨x, rfl⟩
      obtain ⟨g7, cap7, hv7, hlo7, hlt7⟩ := hown7.form (Nat.succ_pos 0)
      have hA7 : A7 = some ⟨g7, 0, Option.none⟩ := by injection hv7
      subst hA7
      have d0 := hown7.cellAt 0 (show 0 < 4 by decide)
      have d1 := hown7.cellAt 1 (show 1 < 4 by decide)
      have d2 := hown7.cellAt 2 (show 2 < 4 by decide)
      have d3 := hown7.cellAt 3 (show 3 < 4 by decide)
      obtain ⟨lop, ln, lnm, lA, lk, lc⟩ := l7
      have e0 : (wr.alloc (Obj.cells #[.int .i64 32, .int .i64 a] 37)).cell? ⟨g7, 0, Option.none⟩ = some (.int .i64 lop) := d0
      have e1 : (wr.alloc (Obj.cells #[.int .i64 32, .int .i64 a] 37)).cell? ⟨g7, 1, Option.none⟩ = some (.int .i64 ln) := d1
      have e2 : (wr.alloc (Obj.cells #[.int .i64 32, .int .i64 a] 37)).cell? ⟨g7, 2, Option.none⟩ = some (.string ⟨lnm.toArray⟩) := d2
      have e3 : (wr.alloc (Obj.cells #[.int .i64 32, .int .i64 a] 37)).cell? ⟨g7, 3, Option.none⟩ = some (.slice lA lk lc) := d3
      have HOW := Lib.hid (hown6.alloc (Obj.cells #[.int .i64 lop, .int .i64 ln, .string ⟨lnm.toArray⟩, .slice lA lk lc] 49))
      have hsr := src_box (wr.alloc (Obj.cells #[.int .i64 32, .int .i64 a] 37)) [.int .i64 lop, .int .i64 ln, .string ⟨lnm.toArray⟩, .slice lA lk lc] 49 4 1 rfl
      rw [World.size_alloc] at hsr
      have HSR := Lib.hid hsr
      have hn6 : ∀ q, (Value.slice A6 l.length c6).ownBlock = some q → w1.heap.size ≤ q ∧ q < wr.heap.size := fun q hq => hl6.lt hq
      have HN6 := Lib.hid hn6
      have HBS := Lib.hid (show w1.heap.size ≤ ((wr.alloc (Obj.cells #[.int .i64 32, .int .i64 a] 37)).alloc (Obj.cells #[.int .i64 lop, .int .i64 ln, .string ⟨lnm.toArray⟩, .slice lA lk lc] 49)).heap.size by simp only [World.size_alloc]; omega)
      have HM1 := Lib.hid (show l.length + 1 ≤ maxLen by unfold maxLen; omega)
      have HM2 := Lib.hid (show (l.length + 1) * 56 ≤ 140737488355328 by omega)
      have HV6 := Lib.hid hvs6
      have HT6 := Lib.hid hT6
      have HV7 := Lib.hid hvs7
      have HT7 := Lib.hid hT7
      have HLS6 := Lib.hid hls6
      have HRU := Lib.hid hru'
      have HDE := Lib.hid hde
      have HAP := Lib.hid (And.intro hap hap2)
      have HBEL := Lib.hid hbel
      clear hru hst hnm hru' hde hap hap2 hl6 hl7 hls6 hown6 hvs6 hT6 hls7 hown7 hvs7 hT7 d0 d1 d2 d3 hbi hv7 hget hx hSb hkp hsr hn6
      go_upto_region 10 with (at_builtin; refine wpList_append_grown (o := ⟨some 37, _, _, _, _, _⟩) (w := (wr.alloc (Obj.cells #[.int .i64 32, .int .i64 a] 37)).alloc (Obj.cells #[.int .i64 lop, .int .i64 ln, .string ⟨lnm.toArray⟩, .slice lA lk lc] 49)) _ _ 41 rfl rfl Tryd.underlying41 HTI.out.1 HTI.out.2.1 HTI.out.2.2.1 HTI.out.2.2.2 rfl (by decide) rfl HOW.out rfl HSR.out (xl_one ⟨lop, ln, lnm, lA, lk, lc⟩) HM1.out HM2.out HBS.out ?_; intro v9 w9 hown9 hg9 hv9; obtain ⟨A9, c9, hv9e, hc9, hm9⟩ := own_shape hown9; subst hv9e; have HO9 := Lib.hid hown9; have HG9 := Lib.hid hg9; have HV9 := Lib.hid hv9; clear hown9 hg9 hv9)
      go_wp2
      go_roundg (p.code.length - k)
      case measure => omega
      case rel =>
        have kb := keepOn_below (S := fun b => b < (wr.alloc (Obj.cells #[.int .i64 32, .int .i64 a] 37)).heap.size) (box_below (wr.alloc (Obj.cells #[.int .i64 32, .int .i64 a] 37)) (Obj.cells #[.int .i64 lop, .int .i64 ln, .string ⟨lnm.toArray⟩, .slice lA lk lc] 49)) (fun b hb => hb)
        have hO := XOwn.push (T := fun b => T6 b ∨ T7 b) (xs := l) (l := ⟨lop, ln, lnm, lA, lk, lc⟩) (y := x) HLS6.out
          (fun k l x hl hx => ExV.mono _ _ _ _ _ _ (fun b hb => .inl hb) (kb.mono fun b hb => (HT6.out b hb).2.1) (HV6.out k l x hl hx))
          (fun b hb => by
            rcases hb with hb | hb
            · have := HT6.out b hb
              exact ⟨this.1, by rw [World.size_alloc]; omega, this.2.2⟩
            · have := HT7.out b hb
              exact ⟨this.1, by rw [World.size_alloc]; omega, fun q => HAP.out.2 b q.symm hb⟩)
          (ExV.mono _ _ _ _ _ _ (fun b hb => .inr hb) (kb.mono fun b hb => (HT7.out b hb).2.1) (HV7.out 0 _ x rfl rfl)) HO9.out HG9.out HV9.out
        have hq := (HBEL.out.alloc HBEL.out.size (Obj.cells #[.int .i64 32, .int .i64 a] 37))
        have hq2 := hq.alloc hq.size (Obj.cells #[.int .i64 lop, .int .i64 ln, .string ⟨lnm.toArray⟩, .slice lA lk lc] 49)
        refine ⟨k + 1, l ++ [x], [], _, _, _, _, by omega, by omega, by go_num, HRU.out, ?_, Nat.zero_le _, by simp only [List.length_append, List.length_singleton]; omega, HDE.out, hO, XOwn.nil _ _, (fun q h => by cases h), (fun _ _ h => h), hq2.grown HG9.out hq2.size (fun j hj => (HN6.out j hj).1)⟩
        dsimp only
        rw [List.length_take, hr0]
        rfl
    · dsimp only at hn32 hr1
      rw [if_neg hn32] at hde
      have hb32 : (op == 32) = false := by simpa using hn32
      have hbw := below_two HBEL0.out hbi HBEL0.out.size
      have hsw := hbw.size
      have hpx := (hbw.block w.heap.size hl1).trans HBX.out
      have q0 : (wr.alloc (Obj.cells #[.int .i64 op, .int .i64 a] 37)).cell? ⟨w.heap.size, 0, Option.none⟩ = some (.slice B1 p.ins.length k1) := by simp [World.cell?, hpx]
      have q1 : (wr.alloc (Obj.cells #[.int .i64 op, .int .i64 a] 37)).cell? ⟨w.heap.size, 1, Option.none⟩ = some (.slice B2 p.rls.length k2) := by simp [World.cell?, hpx]
      have q2 : (wr.alloc (Obj.cells #[.int .i64 op, .int .i64 a] 37)).cell? ⟨w.heap.size, 2, Option.none⟩ = some (.slice B3 p.cells.length k3) := by simp [World.cell?, hpx]
      have q3' : (wr.alloc (Obj.cells #[.int .i64 op, .int .i64 a] 37)).cell? ⟨w.heap.size, 3, Option.none⟩ = some (.slice (some ⟨b, o, Option.none⟩) p.code.length k4) := by simp [World.cell?, hpx]
      obtain ⟨r, hr⟩ : ∃ r, st.length - (opnP op).toNat = r := ⟨_, rfl⟩
      have hri : (st.length : Int) - opnP op = (r : Int) := by rw [hvs] at hol; omega
      have hrw : IntKind.i64.wrap ((st.length : Int) - opnP op) = (r : Int) := by rw [hri]; exact IntWalk.i64_in _ (by omega)
      have hrst : r ≤ st.length := by omega
      have hpw : PgI (wr.alloc (Obj.cells #[.int .i64 op, .int .i64 a] 37)) (Old w) p ⟨B1, k1, B2, k2, B3, k3, some ⟨b, o, Option.none⟩, k4⟩ := HPG.out.mono (fun _ q => q) (fun b hb => by
        have hb' : b < w.heap.size := hb
        exact (hbw.block b (by omega)).trans (HB2.out.block b hb'))
      have HNM := Lib.hid (named_any (⟨op, a⟩ : Ins) hpw (fun b q => by have q' : b < w.heap.size := q; omega) hnm)
      have HRU := Lib.hid hru'
      have HDE := Lib.hid hde
      have HAP := Lib.hid (And.intro hap hap2)
      have HBW := Lib.hid hbw
      have HH6 := Lib.hid (hl6.below hbi (Nat.le_refl _))
      have HH7 := Lib.hid (hl7.below hbi (Nat.le_refl _))
      have HN7a := Lib.hid (show ∀ q, (Value.slice A7 st.length c7).ownBlock = some q → w1.heap.size ≤ q ∧ q < wr.heap.size from fun q hq => hl7.lt hq)
      have HN6 := Lib.hid (show ∀ q, (Value.slice A6 l.length c6).ownBlock = some q → w1.heap.size ≤ q ∧ q < wr.heap.size from fun q hq => hl6.lt hq)
      have HT6a := Lib.hid (show ∀ b, T6 b → b < wr.heap.size from fun b hb => by obtain ⟨_, _, _, _, h4⟩ := hl6; exact (h4 b hb).2.1)
      have HR24 := Lib.hid hr1
      have HRI := Lib.hid hri
      have HRR := Lib.hid hr
      have HVS := Lib.hid hvs
      have HOL := Lib.hid hol
      clear hru hst hnm hru' hde hap hap2 hl6 hl7 hbw hpx hri hr hvs hol hpw hget hx hSb hkp hbel hbi HBEL0
      go_wp2_with fail
      refine (opn_all op _).mono ?_
      rintro e w2 ⟨rfl, rfl⟩
      go_wp2_with fail
      refine HNM.out.mono ?_
      rintro e w3 ⟨xop, xn, xnm, hnmd, rfl, hxp, hb3⟩
      unfold exV
      obtain ⟨ls7, hls7, hown7, hvs7, hT7⟩ := HH7.out
      have hls3 := hb3.size
      have hbx3 := box_below w3 (Obj.cells #[.int .i64 xop, .int .i64 xn, .string ⟨xnm.toArray⟩, .slice Option.none 0 0] 49)
      have hb4 := below_two hb3 hbx3 hb3.size
      have hown8 := own_below hown7 hb4 (Nat.le_refl _)
      have hsrc := own_src_from hown8 hrst
      rw [← flat_drop] at hsrc
      have hcl1 := clone_ex _ (c7 - r) (st.length - r) ((ls7.drop r).flatMap XL.cells) (w3.alloc (Obj.cells #[.int .i64 xop, .int .i64 xn, .string ⟨xnm.toArray⟩, .slice Option.none 0 0] 49)) hsrc
        (fun e => by
          cases A7 with
          | none =>
            have := hown8.form
            rcases Nat.eq_zero_or_pos st.length with q | q
            · omega
            · obtain ⟨g, cap, hv, -, -⟩ := hown8.form q
              injection hv with hv
              cases hv
          | some ad => cases e)
        (by
          intro u hu
          obtain ⟨x, -, hx⟩ := List.mem_flatMap.1 hu
          exact xl_one x u hx) (by omega)
      have hc0 : c7 = r → Calls Tryd.prog 34 #[.slice A7 (st.length - r) 0] (w3.alloc (Obj.cells #[.int .i64 xop, .int .i64 xn, .string ⟨xnm.toArray⟩, .slice Option.none 0 0] 49)) (RetRow 49 4 (st.length - r) ((ls7.drop r).flatMap XL.cells) (w3.alloc (Obj.cells #[.int .i64 xop, .int .i64 xn, .string ⟨xnm.toArray⟩, .slice Option.none 0 0] 49))) := fun h => by
        have h0 : st.length - r = 0 := by omega
        have hl : ls7.drop r = [] := List.drop_eq_nil_iff.2 (by omega)
        rw [hl, h0]
        exact clone_ex A7 0 0 [] _ ⟨rfl, fun hpos => absurd hpos (Nat.lt_irrefl 0)⟩ (fun _ => rfl) (fun u hu => by cases hu) (by omega)
      obtain ⟨n5, hn5⟩ : ∃ n5, st.length - r = n5 := ⟨_, rfl⟩
      have HN5 := Lib.hid hn5
      have HCL : Hid (Calls Tryd.prog 34 #[.slice (Option.map (fun x => x.add (r * 4)) A7) (st.length - r) (c7 - r)] (w3.alloc (Obj.cells #[.int .i64 xop, .int .i64 xn, .string ⟨xnm.toArray⟩, .slice Option.none 0 0] 49)) (RetRow 49 4 n5 ((ls7.drop r).flatMap XL.cells) (w3.alloc (Obj.cells #[.int .i64 xop, .int .i64 xn, .string ⟨xnm.toArray⟩, .slice Option.none 0 0] 49)))) := Lib.hid (by rw [← hn5]; exact hcl1)
      have HC0 : Hid (c7 = r → Calls Tryd.prog 34 #[.slice A7 (st.length - r) 0] (w3.alloc (Obj.cells #[.int .i64 xop, .int .i64 xn, .string ⟨xnm.toArray⟩, .slice Option.none 0 0] 49)) (RetRow 49 4 n5 ((ls7.drop r).flatMap XL.cells) (w3.alloc (Obj.cells #[.int .i64 xop, .int .i64 xn, .string ⟨xnm.toArray⟩, .slice Option.none 0 0] 49)))) := Lib.hid (by rw [← hn5]; exact hc0)
      have HB4 := Lib.hid hb4
      have HLS := Lib.hid (And.intro hls7 (And.intro hown7 (And.intro hvs7 hT7)))
      have HNMD := Lib.hid hnmd
      clear hn5 hcl1 hsrc hown8 hc0 hb4 hls7 hown7 hvs7 hT7 hnmd
      go_upto_region 13 with fail
      have hsl1 : 0 ≤ (r : Int) := by omega
      have hsl2 : (r : Int) ≤ (st.length : Int) := by omega
      have hsl3 : (st.length : Int) ≤ (c7 : Int) := by omega
      have hsl4 : ((r : Int)).toNat = r := Int.toNat_natCast r
      have hsl5 : (r : Int) ≤ (c7 : Int) := by omega
      have hsl6 : r ≤ c7 := by omega
      have HN7 := Lib.hid (show ∀ q, (Value.slice A7 r c7).ownBlock = some q → w1.heap.size ≤ q ∧ q < wr.heap.size from fun q hq => HN7a.out q (by rw [own_block_cut A7 r st.length c7] at *; exact hq))
      go_wp2_with fail
      case' inl h => obtain rfl := h.symm
      all_goals
        first
          | refine HCL.out.mono ?_
          | refine (HC0.out (by first | rfl | omega)).mono ?_
        rintro e w5 ⟨A5, c5, rfl, hc5, hm5, hown5, hb5⟩
        have hx5 := (XV.new w3 xop xn xnm Option.none 0 0).grown (grown_of_below (row := Option.none) hb5) (by simp)
        have hb45 := below_two HB4.out hb5 HB4.out.size
        have hb56 := below_setg hb45 (show (wr.alloc (Obj.cells #[.int .i64 op, .int .i64 a] 37)).heap.size ≤ w3.heap.size from hls3) (Nat.le_refl _) 3 (.slice A5 n5 c5)
        have hx6 := hx5.set3 A5 n5 c5
        have hown6 := own_heap (w' := w5.setCell ⟨w3.heap.size, 3, Option.none⟩ (.slice A5 n5 c5)) hown5 (fun g e _ => Below.heap_setCell w5 ⟨w3.heap.size, 3, Option.none⟩ _ g (fun q => by have := (hown5.lt g e).1; rw [World.size_alloc] at this; have q' : g = w3.heap.size := q; omega))
        have hs5 := hb5.size
        rw [World.size_alloc] at hs5 hown6
        have hs6 : (w5.setCell ⟨w3.heap.size, 3, Option.none⟩ (.slice A5 n5 c5)).heap.size = w5.heap.size := World.size_setCell _ _ _
        have HPX := Lib.hid (push_ex (n5 := n5) (T7 := T7) (A7 := A7) (n := st.length) (c := _) (base := w1.heap.size) HN5.out HLS.out.1 HLS.out.2.2.1 HLS.out.2.2.2 hb56 hown6 hc5 hm5 HNMD.out hxp)
        obtain ⟨x0, x1, x2, x3, f0, f1, f2, f3⟩ := hx5.cells
        have hx5l := hx5.lt
        have HX6 := Lib.hid hx6
        have HB56 := Lib.hid hb56
        clear hx5 hb45 hb56 hx6 hown6 hown5 hb5 hs5 hs6
        go_upto_region 14 with fail
        generalize hW6 : w5.setCell ⟨w3.heap.size, 3, Option.none⟩ (.slice A5 n5 c5) = w6 at *
        have hb56 := HB56.out
        have hs6 := hb56.size
        have hl8 : (st.take r).length = r := by rw [List.length_take]; omega
        obtain ⟨ls8, hls8, hown8, hvs8, hT8⟩ := (HH7.out.below hb56 (Nat.le_refl _)).take rfl hrst
        rw [hl8] at hls8 hown8
        have hHW8 := hown8.alloc (Obj.cells #[.int .i64 xop, .int .i64 xn, .string ⟨xnm.toArray⟩, .slice A5 n5 c5] 49)
        have HOW8 := Lib.hid (show ((w6.alloc (Obj.cells #[.int .i64 xop, .int .i64 xn, .string ⟨xnm.toArray⟩, .slice A5 n5 c5] 49)).drew).ownsRow w1.heap.size 49 4 (.slice A7 r _) r (ls8.flatMap XL.cells) from hHW8)
        have hsr := src_box w6 [.int .i64 xop, .int .i64 xn, .string ⟨xnm.toArray⟩, .slice A5 n5 c5] 49 4 1 rfl
        have HSR := Lib.hid (show Src ((w6.alloc (Obj.cells #[.int .i64 xop, .int .i64 xn, .string ⟨xnm.toArray⟩, .slice A5 n5 c5] 49)).drew) 4 (some ⟨w6.heap.size, 0, Option.none⟩) 1 [.int .i64 xop, .int .i64 xn, .string ⟨xnm.toArray⟩, .slice A5 n5 c5] from hsr)
        have HM1 := Lib.hid (show r + 1 ≤ maxLen by unfold maxLen; omega)
        have HM2 := Lib.hid (show (r + 1) * 56 ≤ 140737488355328 by omega)
        have HBS := Lib.hid (show w1.heap.size ≤ ((w6.alloc (Obj.cells #[.int .i64 xop, .int .i64 xn, .string ⟨xnm.toArray⟩, .slice A5 n5 c5] 49)).drew).heap.size by show w1.heap.size ≤ (w6.alloc (Obj.cells #[.int .i64 xop, .int .i64 xn, .string ⟨xnm.toArray⟩, .slice A5 n5 c5] 49)).heap.size; rw [World.size_alloc]; omega)
        have HL8 := Lib.hid (And.intro hls8 (And.intro hvs8 hT8))
        have HL8E := Lib.hid hl8
        obtain ⟨x0, x1, x2, x3, g0, g1, g2, g3⟩ := HX6.out.cells
        have hx6l := HX6.out.lt
        clear hsr hHW8 hown8 hls8 hvs8 hT8 hl8 hb56 hW6
        go_region_law ((refine step_append_grown (o := ⟨some 57, _, _, _, _, _⟩) (w := (w6.alloc (Obj.cells #[.int .i64 xop, .int .i64 xn, .string ⟨xnm.toArray⟩, .slice A5 n5 c5] 49)).drew) _ _ 41 rfl rfl Tryd.underlying41 HTI.out.1 HTI.out.2.1 HTI.out.2.2.1 HTI.out.2.2.2 rfl (by decide) rfl HOW8.out rfl HSR.out (xl_one ⟨xop, xn, xnm, A5, n5, c5⟩) HM1.out HM2.out HBS.out ?_; intro v9 w9 hown9 hg9 hv9; obtain ⟨A9, c9, hv9e, hc9, hm9⟩ := own_shape hown9; subst hv9e; have HO9 := Lib.hid hown9; have HG9 := Lib.hid hg9; have HV9 := Lib.hid hv9; clear hown9 hg9 hv9))
        all_goals
          go_wp2
          go_roundg (p.code.length - k)
          case measure => omega
          case rel =>
            have hb56 := HB56.out
            have hs6 := hb56.size
            have kb := keepOn_below (S := fun b => b < w6.heap.size) ((below_drew (Below.refl w6.heap.size w6)).alloc (Nat.le_refl _) (Obj.cells #[.int .i64 xop, .int .i64 xn, .string ⟨xnm.toArray⟩, .slice A5 n5 c5] 49)) (fun b hb => hb)
            have hb56d := below_drew hb56
            have HG9d := Lib.hid (show (w6.drew.alloc (Obj.cells #[.int .i64 xop, .int .i64 xn, .string ⟨xnm.toArray⟩, .slice A5 n5 c5] 49)).grownBy w9 (Value.slice A7 r _).ownBlock from HG9.out)
            have hwr : wr.heap.size ≤ (wr.alloc (Obj.cells #[.int .i64 op, .int .i64 a] 37)).heap.size := by rw [World.size_alloc]; omega
            have hw4 : (wr.alloc (Obj.cells #[.int .i64 op, .int .i64 a] 37)).heap.size ≤ w3.heap.size + 1 := by omega
            have hO := XOwn.push (T := fun b => T7 b ∨ (w3.heap.size + 1 ≤ b ∧ b < w6.heap.size)) (xs := st.take r) (l := ⟨xop, xn, xnm, A5, n5, c5⟩) (y := namedP p ⟨op, a⟩ (st.drop r)) (by rw [HL8E.out]; exact HL8.out.1)
              (fun k l x hl hx => ExV.mono _ _ _ _ _ _ (fun b hb => .inl hb) (kb.mono fun b hb => (HL8.out.2.2 b hb).2.1) (HL8.out.2.1 k l x hl hx))
              (fun b hb => by
                rcases hb with hb | hb
                · have := HL8.out.2.2 b hb
                  exact ⟨this.1, by show b < (w6.alloc _).heap.size; rw [World.size_alloc]; omega, this.2.2⟩
                · refine ⟨by omega, by show b < (w6.alloc _).heap.size; rw [World.size_alloc]; omega, fun q => ?_⟩
                  have := (HN7.out b q.symm).2
                  omega)
              (ExV.mono _ _ _ _ _ _ (fun b hb => hb) (kb.mono fun b hb => by
                rcases hb with hb | hb
                · exact (HL8.out.2.2 b hb).2.1
                · exact hb.2) HPX.out) (by rw [HL8E.out]; exact HO9.out) HG9d.out HV9.out
            have hl6 := ((HH6.out.below hb56d (Nat.le_refl _)).below (box_below w6.drew (Obj.cells #[.int .i64 xop, .int .i64 xn, .string ⟨xnm.toArray⟩, .slice A5 n5 c5] 49)) (Nat.le_refl _)).aside (w' := w9) (row := (Value.slice A7 r _).ownBlock) HG9d.out (fun g hg => by
              have := HAP.out.1 g (by rw [own_block_cut A7 r st.length]; exact hg)
              exact ⟨this.2, this.1⟩)
            have hbq := (HBW.out.trans (hb56d.mono HBW.out.size))
            have hbq2 := hbq.alloc hbq.size (Obj.cells #[.int .i64 xop, .int .i64 xn, .string ⟨xnm.toArray⟩, .slice A5 n5 c5] 49)
            have hde := HDE.out
            rw [HRR.out] at hde
            have hT6 : ∀ b, T6 b → b < wr.heap.size := fun b q => HT6a.out b q
            refine ⟨k + 1, l, st.take r ++ [namedP p ⟨op, a⟩ (st.drop r)], T6, fun b => T7 b ∨ (w3.heap.size + 1 ≤ b ∧ b < w6.heap.size), _, _, by omega, by omega, by go_num, HRU.out, ?_, ?_, by omega, hde, hl6, hO, ?_, ?_, hbq2.grown HG9d.out hbq2.size (fun j hj => (HN7.out j hj).1)⟩
            · have e := HRR.out
              have e2 := HVS.out
              have e3 := HL8E.out
              unfold restN
              dsimp only
              simp only [List.length_append, List.length_take, List.length_singleton] at e3 ⊢
              omega
            · have e3 := HL8E.out
              have e := HRR.out
              have e2 := HVS.out
              have e4 := HR24.out
              unfold restN at e4
              dsimp only at e4
              simp only [List.length_append, List.length_singleton]
              omega
            · intro q hq
              rcases HV9.out with e | e
              · exact HAP.out.1 q (by rw [own_block_cut A7 r st.length]; exact e.symm.trans hq)
              · have e' : (Value.slice A9 (r + 1) c9).ownBlock = some (w6.heap.size + 1) := by rw [e]; show some ((w6.alloc _).heap.size) = _; rw [World.size_alloc]
                rw [e'] at hq
                injection hq with hq
                refine ⟨fun h => ?_, fun h => ?_⟩
                · have := hT6 q h
                  omega
                · have := (HN6.out q h).2
                  omega
            · intro q hq h
              rcases h with h | h
              · exact HAP.out.2 q hq h
              · have := (HN6.out q hq).2
                omega
end Go.Proofs.YtcikenlflcofbaaDoor
