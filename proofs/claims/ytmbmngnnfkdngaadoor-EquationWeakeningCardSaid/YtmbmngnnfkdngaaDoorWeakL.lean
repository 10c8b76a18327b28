/-
  The law EquationWeakening: for every expression, environment and name the call returns true.
-/
import Derived.Test.YtmbmngnnfkdngaaDoorCheck
import Derived.Test.YtmbmngnnfkdngaaDoorSmall
import Derived.Test.YtmbmngnnfkdngaaDoorWeakP
import Derived.Test.YtmbmngnnfkdngaaDoorInfo
namespace Go.Proofs.YtmbmngnnfkdngaaDoor
open Go.RowKit

/-- What contains says if it says no. -/
def CtB (s : List UInt8) (x : Ex) (w : World) (e : Ending) (w' : World) : Prop := ∃ b, e = .returned (.bool b) ∧ (b = false → ∀ d, noG s d x) ∧ Below w.heap.size w w'
def CtR (W0 : World) (s : List UInt8) (ks : List Ex) (g : Nat) (v : Value) (wr : World) : Prop := ∃ k, k ≤ ks.length ∧ ks.length - k < g ∧ v = .int .i64 (k : Int) ∧ (∀ j x, j < k → ks[j]? = some x → ∀ d, noG s d x) ∧ Below W0.heap.size W0 wr
theorem no_all {s : List UInt8} {op n : Int} {nm : List UInt8} {ks : List Ex} {k : Nat} (h : ∀ j x, j < k → ks[j]? = some x → ∀ d, noG s d x) (hk : ks.length ≤ k) (hn : nm ≠ s) : ∀ d, noG s d (.mk op n nm ks)
  | 0 => trivial
  | d + 1 => ⟨hn, fun x hx => by
    obtain ⟨j, hj, rfl⟩ := List.getElem_of_mem hx
    exact h j _ (by omega) (List.getElem?_eq_getElem hj) d⟩
theorem no_succ {s : List UInt8} {ks : List Ex} {k : Nat} {y : Ex} (h : ∀ j x, j < k → ks[j]? = some x → ∀ d, noG s d x) (hy : ks[k]? = some y) (hp : ∀ d, noG s d y) : ∀ j x, j < k + 1 → ks[j]? = some x → ∀ d, noG s d x := by
  intro j x hj hx
  rcases Nat.lt_succ_iff_lt_or_eq.1 hj with q | rfl
  · exact h j x q hx
  · rw [hy] at hx; cases hx; exact hp

set_option maxRecDepth 100000 in
set_option maxHeartbeats 4000000 in
theorem contains_some (s : List UInt8) (_hs : s.length ≤ maxLen) : ∀ (d : Nat) (op n : Int) (nm : List UInt8) (A : Option Addr) (c : Nat) (ks : List Ex) (w : World), ks.length ≤ 9223372036854775807 → nm.length ≤ maxLen → Rw (ExC d) 4 w (fun b => b < w.heap.size) A ks.length ks →
    Calls Tryd.prog 24 #[exV op n nm A ks.length c, .string ⟨s.toArray⟩] w (CtB s (.mk op n nm ks) w) := by
  intro d
  induction d using Nat.strongRecOn with
  | _ d ih =>
    intro op n nm A c ks w hl hnl hr
    have HIH := Lib.hid ih
    have HR := Lib.hid hr
    clear ih hr
    unfold exV
    unfold maxLen at hnl
    have HB := Lib.hid (box_below w (Obj.cells #[.int .i64 op, .int .i64 n, .string ⟨nm.toArray⟩, .slice A ks.length c] 24))
    have HX := Lib.hid (XV.new w op n nm A ks.length c)
    go_enter Tryd.func24, Tryd.ntmps24
    go_wp2
    go_loopg [10] (ks.length + 1) (fun g v wr => CtR (w.alloc (Obj.cells #[.int .i64 op, .int .i64 n, .string ⟨nm.toArray⟩, .slice A ks.length c] 24)) s ks g v wr)
    case atStart => exact ⟨0, Nat.zero_le _, by omega, rfl, fun j x h => absurd h (Nat.not_lt_zero _), Below.refl _ _⟩
    case round =>
      obtain ⟨k, hk, hg, rfl, hall, hb⟩ := hrel
      have HALL := Lib.hid hall
      clear hall
      have hsz := hb.size
      simp only [World.size_alloc] at hsz
      have hbw := below_two HB.out hb HB.out.size
      by_cases hlt : k < ks.length
      case neg =>
        obtain ⟨x0, x1, x2, x3, -, -, -, -⟩ := (HX.out.below hb).cells
        have HBW := Lib.hid hbw
        have HF := Lib.hid (fun h => no_all (op := op) (n := n) (nm := nm) HALL.out (by omega) h)
        clear hb hbw
        go_wp2
        go_ret
        exact ⟨_, rfl, fun q => HF.out (by simpa using q), HBW.out⟩
      obtain ⟨d', b, o, op2, n2, nm2, A2, c2, ys, hd', hA, hSb, hky, hc2, hm2, hp2, hr2, hxb⟩ := exAtC (HR.out.mono (ExC.mono _) (fun b q => q) (keepOn_below hbw fun b q => q)) hlt
      subst hA
      obtain ⟨y0, y1, y2, y3⟩ := hxb
      have hbk : b < wr.heap.size := by omega
      have hbx := box_below wr (Obj.cells #[.int .i64 op2, .int .i64 n2, .string ⟨nm2.toArray⟩, .slice A2 ys.length c2] 24)
      have hl2 : ys.length ≤ 9223372036854775807 := by unfold maxLen at hm2; omega
      have C1 := HIH.out d' (by omega) op2 n2 nm2 A2 c2 ys (wr.alloc (Obj.cells #[.int .i64 op2, .int .i64 n2, .string ⟨nm2.toArray⟩, .slice A2 ys.length c2] 24)) hl2 hp2.2.2 (hr2.mono (ExC.mono _) (fun b q => by simp only [World.size_alloc]; omega) (keepOn_below hbx fun b q => by omega))
      unfold exV at C1
      have HC1 := Lib.hid C1
      have HKY := Lib.hid hky
      have HBB := Lib.hid (below_two hb hbx hb.size)
      have HBC := Lib.hid (below_two hbw hbx hbw.size)
      clear hr2 C1 hbw hp2 hky hb hbx hSb hc2 hd'
      unfold maxLen at hm2
      go_wp2_with fail
      refine HC1.out.mono ?_
      rintro e w5 ⟨b5, rfl, hb5s, hb5⟩
      cases b5 with
      | true =>
        clear hb5s
        go_wp2
        go_ret
        exact ⟨_, rfl, (fun q => by cases q), below_two HBC.out hb5 HBC.out.size⟩
      | false =>
        have HB5 := Lib.hid (hb5s rfl)
        clear hb5s
        go_wp2
        go_roundg (ks.length - k)
        case measure => omega
        case rel => exact ⟨k + 1, by omega, by omega, by go_num, no_succ HALL.out HKY.out HB5.out, below_two HBB.out hb5 HBB.out.size⟩
theorem contains_in {w : World} {op n : Int} {nm : List UInt8} {A : Option Addr} {c : Nat} {ks : List Ex} (h : XI w op n nm A c ks) (s : List UInt8) (hs : s.length ≤ maxLen) : Calls Tryd.prog 24 #[.agg #[.int .i64 op, .int .i64 n, .string ⟨nm.toArray⟩, .slice A ks.length c], .string ⟨s.toArray⟩] w (CtB s (.mk op n nm ks) w) := by
  obtain ⟨d, hd⟩ := rw_ex h.rw
  have hm := h.hm
  have hc := h.hc
  unfold maxLen at hm
  exact contains_some s hs d op n nm A c ks w (by omega) h.hp.2.2 hd

def WkR (W0 : World) (env : List Sg) (s : List UInt8) (g : Nat) (v : Value) (wr : World) : Prop := ∃ k, k ≤ env.length ∧ env.length - k < g ∧ v = .int .i64 (k : Int) ∧ (∀ j y, j < k → env[j]? = some y → y.nm ≠ s) ∧ Below W0.heap.size W0 wr
theorem wk_succ {env : List Sg} {s : List UInt8} {k : Nat} {y : Sg} (h : ∀ j x, j < k → env[j]? = some x → x.nm ≠ s) (hy : env[k]? = some y) (hp : y.nm ≠ s) : ∀ j x, j < k + 1 → env[j]? = some x → x.nm ≠ s := by
  intro j x hj hx
  rcases Nat.lt_succ_iff_lt_or_eq.1 hj with q | rfl
  · exact h j x q hx
  · rw [hy] at hx; cases hx; exact hp
theorem wk_all {env : List Sg} {s : List UInt8} {k : Nat} (h : ∀ j x, j < k → env[j]? = some x → x.nm ≠ s) (hk : env.length ≤ k) : ∀ y ∈ env, y.nm ≠ s := by
  intro x hx
  obtain ⟨j, hj, rfl⟩ := List.getElem_of_mem hx
  exact h j _ (by omega) (List.getElem?_eq_getElem hj)

set_option maxRecDepth 100000 in
set_option maxHeartbeats 8000000 in
theorem weak_any (op n : Int) (nm : List UInt8) (A : Option Addr) (c : Nat) (ks : List Ex) (A' : Option Addr) (c' : Nat) (env : List Sg) (more : List UInt8) (w : World) (hw : Lw w) (hxi : XI w op n nm A c ks)
    (hc' : env.length ≤ c') (hm' : c' ≤ maxLen) (hr' : Rw SgC 2 w (fun b => b < w.heap.size) A' env.length env) (hmo : more.length ≤ maxLen) :
    Calls Tryd.prog 9 #[.agg #[.int .i64 op, .int .i64 n, .string ⟨nm.toArray⟩, .slice A ks.length c], .slice A' env.length c', .string ⟨more.toArray⟩] w (RetB true w) := by
  have HW := Lib.hid hw
  have hbx := box_below w (Obj.cells #[.int .i64 op, .int .i64 n, .string ⟨nm.toArray⟩, .slice A ks.length c] 24)
  have HB0 := Lib.hid hbx
  have HI0 := Lib.hid (hxi.below hbx)
  have HX0 := Lib.hid (XV.new w op n nm A ks.length c)
  have HR := Lib.hid hr'
  have HM := Lib.hid hm'
  have HMO := Lib.hid hmo
  have HC1 := Lib.hid (small_in (hxi.below hbx) 1)
  unfold maxLen at hm' hmo
  clear hw hxi hbx hr'
  go_enter Tryd.func9, Tryd.ntmps9
  go_wp2_with fail
  refine HC1.out.mono ?_
  rintro e w1 ⟨b1, rfl, hb1⟩
  obtain ⟨x0, x1, x2, x3, -, -, -, -⟩ := (HX0.out.below hb1).cells
  have HB1 := Lib.hid (below_two HB0.out hb1 HB0.out.size)
  have HI1 := Lib.hid (HI0.out.below hb1)
  have HX1 := Lib.hid (HX0.out.below hb1)
  clear hb1 HC1 HB0 HI0 HX0
  cases b1 with
  | false =>
    have HK := Lib.hid (known_any _ (HW.out.below HB1.out))
    go_wp2_with fail
    refine HK.out.mono ?_
    rintro e w3 ⟨rfl, hb3⟩
    go_wp2
    go_ret
    exact ⟨rfl, below_two HB1.out hb3 HB1.out.size⟩
  | true =>
  by_cases hl : 20 < env.length
  · have d1 : (20 : Int) < (env.length : Int) := by omega
    have HK := Lib.hid (known_any _ (HW.out.below HB1.out))
    go_wp2_with fail
    refine HK.out.mono ?_
    rintro e w4 ⟨rfl, hb4⟩
    go_wp2
    go_ret
    exact ⟨rfl, below_two HB1.out hb4 HB1.out.size⟩
  have d1 : ¬ (20 : Int) < (env.length : Int) := by omega
  have C2 := name_any more w1 HMO.out
  cases hnb : nameB more with
  | false =>
    rw [hnb] at C2
    have HC2 := Lib.hid C2
    clear C2 hnb
    have HK := Lib.hid (known_any _ (HW.out.below HB1.out))
    go_wp2_with fail
    refine HC2.out.mono ?_
    rintro e w2 ⟨rfl, rfl⟩
    go_wp2_with fail
    refine HK.out.mono ?_
    rintro e w4 ⟨rfl, hb4⟩
    go_wp2
    go_ret
    exact ⟨rfl, below_two HB1.out hb4 HB1.out.size⟩
  | true =>
  rw [hnb] at C2
  have HC2 := Lib.hid C2
  have HNB := Lib.hid hnb
  have HC3 := Lib.hid (contains_in HI1.out more HMO.out)
  clear C2 hnb
  go_wp2_with fail
  refine HC2.out.mono ?_
  rintro e w2 ⟨rfl, rfl⟩
  go_wp2_with fail
  refine HC3.out.mono ?_
  rintro e w2 ⟨b2, rfl, hno, hb2⟩
  have HB2 := Lib.hid (below_two HB1.out hb2 HB1.out.size)
  have HI2 := Lib.hid (HI1.out.below hb2)
  have HX2 := Lib.hid (HX1.out.below hb2)
  clear hb2 HC2 HC3 HI1 HX1 x0 x1 x2 x3
  cases b2 with
  | true =>
    have HK := Lib.hid (known_any _ (HW.out.below HB2.out))
    go_wp2_with fail
    refine HK.out.mono ?_
    rintro e w4 ⟨rfl, hb4⟩
    go_wp2
    go_ret
    exact ⟨rfl, below_two HB2.out hb4 HB2.out.size⟩
  | false =>
  have HNO := Lib.hid (hno rfl)
  clear hno
  go_wp2
  go_loopg [34] (env.length + 1) (fun g v wr => WkR w2 env more g v wr)
  case atStart => exact ⟨0, Nat.zero_le _, by omega, rfl, fun j x h => absurd h (Nat.not_lt_zero _), Below.refl _ _⟩
  case round =>
    obtain ⟨k, hk, hg, rfl, hall, hb⟩ := hrel
    have HALL := Lib.hid hall
    clear hall
    have hbw := below_two HB2.out hb HB2.out.size
    by_cases hlt : k < env.length
    case pos =>
      obtain ⟨b, o, s, hA, hSb, hx, hxl, hxw, y0, y1⟩ := sgAt (HR.out.mono SgC.mono (fun _ q => q) (keepOn_below hbw fun _ q => q)) hlt
      subst hA
      obtain ⟨snm, skd⟩ := s
      dsimp only at *
      have hbk : b < wr.heap.size := Nat.lt_of_lt_of_le hSb hbw.size
      have hbx := box_below wr (Obj.cells #[.string ⟨snm.toArray⟩, .int .i64 skd] 37)
      have HBB := Lib.hid (below_two hb hbx hb.size)
      have HBC := Lib.hid (below_two hbw hbx hbw.size)
      have HX := Lib.hid hx
      unfold maxLen at hxl
      clear hb hbw hbx hx hSb
      by_cases he : snm = more
      · have e1 : (snm == more) = true := by simp [he]
        have HK := Lib.hid (known_any _ (HW.out.below HBC.out))
        clear he
        go_wp2_with fail
        refine HK.out.mono ?_
        rintro e w4 ⟨rfl, hb4⟩
        go_wp2
        go_ret
        exact ⟨rfl, below_two HBC.out hb4 HBC.out.size⟩
      · have e1 : (snm == more) = false := by simp [he]
        have HN := Lib.hid (wk_succ HALL.out HX.out he)
        clear he
        go_wp2
        go_roundg (env.length - k)
        case measure => omega
        case rel => exact ⟨k + 1, by omega, by omega, by go_num, HN.out, HBB.out⟩
    have HEQ := Lib.hid (check_more (x := .mk op n nm ks) (env := env) HNB.out (wk_all HALL.out (by omega)) HNO.out)
    have HBW := Lib.hid hbw
    have HI3 := Lib.hid (HI2.out.below hb)
    have HX3 := Lib.hid (HX2.out.below hb)
    have C4 := Check_any (HI2.out.below hb) A' c' env hc' HM.out (HR.out.mono SgC.mono (fun _ q => Nat.lt_of_lt_of_le q hbw.size) (keepOn_below hbw fun _ q => q))
    have HC4 := Lib.hid C4
    obtain ⟨x0, x1, x2, x3, -, -, -, -⟩ := (HX2.out.below hb).cells
    clear C4 hb hbw HI2 HX2 HALL HNO
    go_wp2_with fail
    refine HC4.out.mono ?_
    rintro e w3 ⟨rfl, hb3⟩
    have hX3 := HX3.out.below hb3
    clear x0 x1 x2 x3
    obtain ⟨x0, x1, x2, x3, -, -, -, -⟩ := hX3.cells
    have HB3 := Lib.hid (below_two HBW.out hb3 HBW.out.size)
    have hI3 := HI3.out.below hb3
    have hb03 := HB3.out
    have hlw : w.heap.size < w3.heap.size := hX3.lt
    have HI4 := Lib.hid hI3
    have HX4 := Lib.hid hX3
    have HR3 := Lib.hid (HR.out.mono (S' := fun b => b < w3.heap.size) SgC.mono (fun _ q => Nat.lt_of_lt_of_le q hb03.size) (keepOn_below hb03 fun _ q => q))
    generalize hr0 : checkP (.mk op n nm ks) env = r0 at *
    obtain ⟨ra, rb⟩ := r0
    dsimp only
    have HEQ2 := Lib.hid (HEQ.out)
    obtain ⟨i0, hi, hz0, hz1, hz2⟩ := info_parts infoSg
    have on1 := sgCells_one env
    have on3 := sgCells_one1 ⟨more, 2⟩
    have m1 : 0 + env.length ≤ maxLen := by unfold maxLen; omega
    have m2 : (0 + env.length) * 24 ≤ 140737488355328 := by omega
    have m3 : 0 + env.length + 1 ≤ maxLen := by unfold maxLen; omega
    have m4 : (0 + env.length + 1) * 24 ≤ 140737488355328 := by omega
    have hSrc := fun W (hb : Below w3.heap.size w3 W) => src_rw (f := sgCells) (HR3.out.mono (S' := fun b => b < w3.heap.size) SgC.mono (fun _ q => q) (keepOn_below hb fun _ q => q)) (fun cs x h => h.1) (fun x _ => rfl)
    have o1 : (w3.alloc (Obj.cells #[] 37)).drew.ownsRow w3.heap.size 37 2 (.slice (some ⟨w3.heap.size, 0, Option.none⟩) 0 0) 0 [] := World.ownsRow_lit (base := w3.heap.size) (e := 37) (size := 2) w3 #[] 0 (Nat.le_refl _) (Nat.zero_le _) rfl
    have o2 : ((w3.alloc (Obj.cells #[] 37)).alloc (Obj.cells #[.string ⟨more.toArray⟩, .int .i64 2] 37)).drew.ownsRow w3.heap.size 37 2 (.slice (some ⟨w3.heap.size, 0, Option.none⟩) 0 0) 0 [] := (World.ownsRow_lit (base := w3.heap.size) (e := 37) (size := 2) w3 #[] 0 (Nat.le_refl _) (Nat.zero_le _) rfl).alloc _
    have o3 : ((w3.alloc (Obj.cells #[.string ⟨more.toArray⟩, .int .i64 2] 37)).alloc (Obj.cells #[] 37)).drew.ownsRow w3.heap.size 37 2 (.slice (some ⟨w3.heap.size + 1, 0, Option.none⟩) 0 0) 0 [] := by
      have := World.ownsRow_lit (base := w3.heap.size) (e := 37) (size := 2) (w3.alloc (Obj.cells #[.string ⟨more.toArray⟩, .int .i64 2] 37)) #[] 0 (by simp) (Nat.zero_le _) rfl
      have h' : ((w3.alloc (Obj.cells #[.string ⟨more.toArray⟩, .int .i64 2] 37)).alloc (Obj.cells #[] 37)).ownsRow w3.heap.size 37 2 (.slice (some ⟨w3.heap.size + 1, 0, Option.none⟩) 0 0) 0 [] := by simpa using this
      exact h'
    have b1 : Below w3.heap.size w3 (w3.alloc (Obj.cells #[] 37)).drew := (box_below w3 _).drew
    have b2 : Below w3.heap.size w3 ((w3.alloc (Obj.cells #[] 37)).alloc (Obj.cells #[.string ⟨more.toArray⟩, .int .i64 2] 37)).drew := ((box_below w3 _).alloc (by simp) _).drew
    have b3 : Below w3.heap.size w3 ((w3.alloc (Obj.cells #[.string ⟨more.toArray⟩, .int .i64 2] 37)).alloc (Obj.cells #[] 37)).drew := ((box_below w3 _).alloc (by simp) _).drew
    have x2s : Src ((w3.alloc (Obj.cells #[] 37)).alloc (Obj.cells #[.string ⟨more.toArray⟩, .int .i64 2] 37)).drew 2 (some ⟨w3.heap.size + 1, 0, Option.none⟩) 1 (sgCells ⟨more, 2⟩) := by
      have := src_box (w3.alloc (Obj.cells #[] 37)) (sgCells ⟨more, 2⟩) 37 2 1 rfl
      rw [World.size_alloc] at this
      exact this
    have x3s : Src ((w3.alloc (Obj.cells #[.string ⟨more.toArray⟩, .int .i64 2] 37)).alloc (Obj.cells #[] 37)).drew 2 (some ⟨w3.heap.size, 0, Option.none⟩) 1 (sgCells ⟨more, 2⟩) := src_kept (src_box w3 (sgCells ⟨more, 2⟩) 37 2 1 rfl) (Below.heap_alloc _ _ _ (by simp))
    have K2 : ∀ W', ((w3.alloc (Obj.cells #[] 37)).alloc (Obj.cells #[.string ⟨more.toArray⟩, .int .i64 2] 37)).drew.grownBy W' (Value.slice (some ⟨w3.heap.size, 0, Option.none⟩) 0 0).ownBlock → Src W' 2 (some ⟨w3.heap.size + 1, 0, Option.none⟩) 1 (sgCells ⟨more, 2⟩) := fun W' hg => src_kept x2s (hg.block _ (by show w3.heap.size + 1 < ((w3.alloc (Obj.cells #[] 37)).alloc (Obj.cells #[.string ⟨more.toArray⟩, .int .i64 2] 37)).heap.size; simp only [World.size_alloc]; omega) (by simp only [Value.ownBlock, ne_eq, Option.some.injEq]; omega))
    have K3 : ∀ W', ((w3.alloc (Obj.cells #[.string ⟨more.toArray⟩, .int .i64 2] 37)).alloc (Obj.cells #[] 37)).drew.grownBy W' (Value.slice (some ⟨w3.heap.size + 1, 0, Option.none⟩) 0 0).ownBlock → Src W' 2 (some ⟨w3.heap.size, 0, Option.none⟩) 1 (sgCells ⟨more, 2⟩) := fun W' hg => src_kept x3s (hg.block _ (by show w3.heap.size < ((w3.alloc (Obj.cells #[.string ⟨more.toArray⟩, .int .i64 2] 37)).alloc (Obj.cells #[] 37)).heap.size; simp only [World.size_alloc]; omega) (by simp only [Value.ownBlock, ne_eq, Option.some.injEq]; omega))
    have z1 := b1.size
    have z2 := b2.size
    have z3 := b3.size
    have s1 := hSrc _ b1
    have s2 := hSrc _ b2
    have s3 := hSrc _ b3
    have hsg : ∀ s ∈ env, s.nm.length ≤ maxLen ∧ (Lit.int .i64 s.kind).wf = true := by
      intro s hs
      obtain ⟨j, hj, rfl⟩ := List.getElem_of_mem hs
      obtain ⟨_, _, s', _, _, hx', h1, h2, _, _⟩ := sgAt HR3.out hj
      rw [List.getElem?_eq_getElem hj] at hx'
      cases hx'
      exact ⟨h1, h2⟩
    have hCK : ∀ A6 c6 W, 0 + env.length + 1 ≤ c6 → c6 ≤ maxLen → W.ownsRow w3.heap.size 37 2 (.slice A6 (0 + env.length + 1) c6) (0 + env.length + 1) ([] ++ env.flatMap sgCells ++ sgCells ⟨more, 2⟩) → Below w3.heap.size w3 W →
        Calls Tryd.prog 21 #[.agg #[.int .i64 op, .int .i64 n, .string ⟨nm.toArray⟩, .slice A ks.length c], .slice A6 (env.length + 1) c6] W (RetTwo (ra, rb) W) := by
      intro A6 c6 W h1 h2 ho hb
      rw [Nat.zero_add] at h1 ho
      have hln : (env ++ [(⟨more, 2⟩ : Sg)]).length = env.length + 1 := by rw [List.length_append]; rfl
      have ho' : W.ownsRow w3.heap.size 37 2 (.slice A6 (env.length + 1) c6) (env.length + 1) ((env ++ [(⟨more, 2⟩ : Sg)]).flatMap sgCells) := by
        rw [List.flatMap_append, show [(⟨more, 2⟩ : Sg)].flatMap sgCells = sgCells ⟨more, 2⟩ from List.append_nil _]
        exact ho
      have hrw : Rw SgC 2 W (fun b => b < W.heap.size) A6 (env.length + 1) (env ++ [(⟨more, 2⟩ : Sg)]) := Rw.of_own (f := sgCells) ho' hln (fun _ _ => rfl) (fun x hx => by
        rcases List.mem_append.1 hx with h' | h'
        · exact ⟨rfl, hsg x h'⟩
        · cases List.mem_singleton.1 h'
          exact ⟨rfl, HMO.out, rfl⟩) (fun b _ h => h)
      rw [← hln] at hrw ⊢
      have := Check_any (HI4.out.below hb) A6 c6 (env ++ [(⟨more, 2⟩ : Sg)]) (by rw [hln]; omega) h2 hrw
      rw [HEQ2.out] at this
      exact this
    have HCK := Lib.hid hCK
    have HK2 := Lib.hid K2
    have HK3 := Lib.hid K3
    have lx : w.heap.size < w3.heap.size + 1 := by omega
    clear hCK K2 K3 x2s x3s hSrc hsg hX3 hI3 hb03 hb3 hr0 HI3 HX3 HC4 HR3
    go_wp2_with fail
    go_region_held3 (fun w' => w'.cell? ⟨w.heap.size, 0, Option.none⟩ = some (.int .i64 op) ∧ w'.cell? ⟨w.heap.size, 1, Option.none⟩ = some (.int .i64 n) ∧ w'.cell? ⟨w.heap.size, 2, Option.none⟩ = some (.string ⟨nm.toArray⟩) ∧ w'.cell? ⟨w.heap.size, 3, Option.none⟩ = some (.slice A ks.length c)) (go_keep)
      (first
       | ((refine step_append_grown (o := ⟨some 54, _, _, _, _, _⟩) (w := (w3.alloc (Obj.cells #[] 37)).drew) _ _ 38 rfl rfl Tryd.underlying38 hi hz0 hz1 hz2 rfl (by decide) rfl o1 rfl s1 on1 m1 m2 z1 ?_; intro v1 w5 hown1 hg1 hv1; have hb1 := b1.grown hg1 z1 (fun k hk => (o1.lt k hk).1); obtain ⟨t0, t1, t2, t3, -, -, -, -⟩ := (HX4.out.below hb1).cells))
       | ((refine step_append_grown (o := ⟨some 54, _, _, _, _, _⟩) (w := ((w3.alloc (Obj.cells #[] 37)).alloc (Obj.cells #[.string ⟨more.toArray⟩, .int .i64 2] 37)).drew) _ _ 38 rfl rfl Tryd.underlying38 hi hz0 hz1 hz2 rfl (by decide) rfl o2 rfl s2 on1 m1 m2 z2 ?_; intro v1 w5 hown1 hg1 hv1; have hb1 := b2.grown hg1 z2 (fun k hk => (o2.lt k hk).1); obtain ⟨t0, t1, t2, t3, -, -, -, -⟩ := (HX4.out.below hb1).cells; have sx := HK2.out _ hg1))
       | ((refine step_append_grown (o := ⟨some 54, _, _, _, _, _⟩) (w := ((w3.alloc (Obj.cells #[.string ⟨more.toArray⟩, .int .i64 2] 37)).alloc (Obj.cells #[] 37)).drew) _ _ 38 rfl rfl Tryd.underlying38 hi hz0 hz1 hz2 rfl (by decide) rfl o3 rfl s3 on1 m1 m2 z3 ?_; intro v1 w5 hown1 hg1 hv1; have hb1 := b3.grown hg1 z3 (fun k hk => (o3.lt k hk).1); obtain ⟨t0, t1, t2, t3, -, -, -, -⟩ := (HX4.out.below hb1).cells; have sx := HK3.out _ hg1))
       | ((refine step_append_grown (o := ⟨some 58, _, _, _, _, _⟩) (w := w5.alloc (Obj.cells #[.string ⟨more.toArray⟩, .int .i64 2] 37)) _ _ 38 rfl rfl Tryd.underlying38 hi hz0 hz1 hz2 rfl (by decide) rfl (hown1.alloc _) rfl (src_box w5 (sgCells ⟨more, 2⟩) 37 2 1 rfl) on3 m3 m4 (hb1.alloc hb1.size _).size ?_; intro v2 w6 hown2 hg2 hv2; have hb2 := (hb1.alloc hb1.size _).grown hg2 (hb1.alloc hb1.size _).size (fun k hk => (hown1.lt k hk).1); obtain ⟨t0, t1, t2, t3, -, -, -, -⟩ := (HX4.out.below hb2).cells; obtain ⟨A6, c6, he6, hnc6, hmx6⟩ := own_shape hown2; subst he6; have HCX := Lib.hid (HCK.out A6 c6 w6 hnc6 hmx6 hown2 hb2)))
       | ((refine step_append_grown (o := ⟨some 58, _, _, _, _, _⟩) (w := w5) _ _ 38 rfl rfl Tryd.underlying38 hi hz0 hz1 hz2 rfl (by decide) rfl hown1 rfl sx on3 m3 m4 hb1.size ?_; intro v2 w6 hown2 hg2 hv2; have hb2 := hb1.grown hg2 hb1.size (fun k hk => (hown1.lt k hk).1); obtain ⟨t0, t1, t2, t3, -, -, -, -⟩ := (HX4.out.below hb2).cells; obtain ⟨A6, c6, he6, hnc6, hmx6⟩ := own_shape hown2; subst he6; have HCX := Lib.hid (HCK.out A6 c6 w6 hnc6 hmx6 hown2 hb2)))
       | ((go_at_call 21; (with_reducible refine HCX.out.mono ?_); rintro e w7 ⟨rfl, hb7⟩; have hb37 := below_two hb2 hb7 hb2.size; obtain ⟨t0, t1, t2, t3, -, -, -, -⟩ := (HX4.out.below hb37).cells)))
    all_goals
      have HB7 := Lib.hid (below_two HB3.out hb37 HB3.out.size)
      have HK := Lib.hid (known_any _ (HW.out.below HB7.out))
      go_wp2_with fail
      refine HK.out.mono ?_
      rintro e w8 ⟨rfl, hb8⟩
      go_wp2
      go_ret
      exact ⟨rfl, below_two HB7.out hb8 HB7.out.size⟩
end Go.Proofs.YtmbmngnnfkdngaaDoor
