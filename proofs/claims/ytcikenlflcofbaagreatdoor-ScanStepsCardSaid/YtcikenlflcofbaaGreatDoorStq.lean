/-
  scan.Step.
-/
import Derived.Test.YtcikenlflcofbaaGreatDoorStp
import Derived.Deep.DeepCutAuto
namespace Go.Proofs.YtcikenlflcofbaaGreatDoor
open Go.RowKit

def RetStp (p : Pg) (m : Mm) (inp : List Int) (w : World) (e : Ending) (w' : World) : Prop :=
  ∃ l, e = .returned (.tuple #[mmV (scanS p m inp).1 l, .int .i64 (scanS p m inp).2]) ∧ MmI w' (New w w') (scanS p m inp).1 l ∧ Below w.heap.size w w'
theorem RetStp.none {p : Pg} {m : Mm} {inp : List Int} {w w' : World} {er : Int} (h : scanS p m inp = (mmNil, er)) (hb : Below w.heap.size w w') :
    RetStp p m inp w (.returned (.tuple #[.agg #[.slice Option.none 0 0, .slice Option.none 0 0], .int .i64 er])) w' := by
  refine ⟨mlNil, ?_, ?_, hb⟩
  · rw [h]; rfl
  · rw [h]; exact MmI.nil _ _
/-- The three boxes of Step. -/
structure StB (W : World) (n : Nat) (p : Pg) (l : Pl) (m : Mm) (ml : Ml) : Prop where
  b0 : W.heap[n]? = some (.cells (pgC p l) 35 (0, 0))
  b1 : W.heap[n + 1]? = some (.cells (mmC m ml) 53 (0, 0))
  b2 : W.heap[n + 2]? = some (.cells #[.slice Option.none 0 0, .slice Option.none 0 0] 53 (0, 0))
theorem StB.lt {W : World} {n : Nat} {p : Pg} {l : Pl} {m : Mm} {ml : Ml} (h : StB W n p l m ml) : n + 2 < W.heap.size := (Array.getElem?_eq_some_iff.1 h.b2).1
theorem StB.below {W W' : World} {n : Nat} {p : Pg} {l : Pl} {m : Mm} {ml : Ml} (h : StB W n p l m ml) (hb : Below W.heap.size W W') : StB W' n p l m ml := by
  have := h.lt
  exact ⟨(hb.block n (by omega)).trans h.b0, (hb.block (n + 1) (by omega)).trans h.b1, (hb.block (n + 2) (by omega)).trans h.b2⟩
theorem three_boxes (w : World) (p : Pg) (l : Pl) (m : Mm) (ml : Ml) : StB (((w.alloc (Obj.cells (pgC p l) 35)).alloc (Obj.cells (mmC m ml) 53)).alloc (Obj.cells #[.slice Option.none 0 0, .slice Option.none 0 0] 53)) w.heap.size p l m ml := by
  have h0 := heap_alloc_new w (Obj.cells (pgC p l) 35)
  have h1 := heap_alloc_new (w.alloc (Obj.cells (pgC p l) 35)) (Obj.cells (mmC m ml) 53)
  have h2 := heap_alloc_new ((w.alloc (Obj.cells (pgC p l) 35)).alloc (Obj.cells (mmC m ml) 53)) (Obj.cells #[.slice Option.none 0 0, .slice Option.none 0 0] 53)
  simp only [World.size_alloc] at h1 h2
  exact ⟨(Lib.alloc_old _ _ _ (by simp only [World.size_alloc]; omega)).trans ((Lib.alloc_old _ _ _ (by simp only [World.size_alloc]; omega)).trans h0), (Lib.alloc_old _ _ _ (by simp only [World.size_alloc]; omega)).trans h1, h2⟩
theorem StB.cells {W : World} {n : Nat} {p : Pg} {B1 B2 B3 B4 : Option Addr} {k1 k2 k3 k4 : Nat} {m : Mm} {D1 D2 : Option Addr} {d1 d2 : Nat} (h : StB W n p ⟨B1, k1, B2, k2, B3, k3, B4, k4⟩ m ⟨D1, d1, D2, d2⟩) :
    W.cell? ⟨n, 0, Option.none⟩ = some (.slice B1 p.ins.length k1) ∧ W.cell? ⟨n, 1, Option.none⟩ = some (.slice B2 p.rls.length k2) ∧ W.cell? ⟨n, 2, Option.none⟩ = some (.slice B3 p.cells.length k3) ∧ W.cell? ⟨n, 3, Option.none⟩ = some (.slice B4 p.code.length k4) ∧
    W.cell? ⟨n + 1, 0, Option.none⟩ = some (.slice D1 m.vals.length d1) ∧ W.cell? ⟨n + 1, 1, Option.none⟩ = some (.slice D2 m.cells.length d2) ∧
    W.cell? ⟨n + 2, 0, Option.none⟩ = some (.slice Option.none 0 0) ∧ W.cell? ⟨n + 2, 1, Option.none⟩ = some (.slice Option.none 0 0) ∧ W.frozen? ⟨n + 2, 0, Option.none⟩ = false ∧ W.frozen? ⟨n + 2, 1, Option.none⟩ = false := by
  have h0 := h.b0
  have h1 := h.b1
  have h2 := h.b2
  refine ⟨?_, ?_, ?_, ?_, ?_, ?_, ?_, ?_, Lib.frozen_of_heap h2 0, Lib.frozen_of_heap h2 1⟩ <;> simp [World.cell?, h0, h1, h2]
theorem st_back {w W : World} {n : Nat} (h : Below w.heap.size w W) (hn : w.heap.size ≤ n) (x y : Value) : Below w.heap.size w ((W.setCell ⟨n, 0, Option.none⟩ x).setCell ⟨n, 1, Option.none⟩ y) :=
  below_setg (below_setg h hn (Nat.le_refl _) 0 x) hn (Nat.le_refl _) 1 y

theorem StB.kb {W W' : World} {n : Nat} {p : Pg} {l : Pl} {m : Mm} {ml : Ml} {S : Nat → Prop} (h : StB W n p l m ml) (hk : KB S W W') (hS : ∀ b, S b → n + 2 < b) : StB W' n p l m ml := by
  have := h.lt
  exact ⟨(hk.block n (by omega) (fun q => by have := hS _ q; omega)).trans h.b0, (hk.block (n + 1) (by omega) (fun q => by have := hS _ q; omega)).trans h.b1, (hk.block (n + 2) (by omega) (fun q => by have := hS _ q; omega)).trans h.b2⟩
theorem two_set_at {w1 : World} {bb : Nat} {a b : Value} {t : TypeId} (h : w1.heap[bb]? = some (.cells #[a, b] t (0, 0))) (x y : Value) :
    ((w1.setCell ⟨bb, 0, Option.none⟩ x).setCell ⟨bb, 1, Option.none⟩ y).cell? ⟨bb, 0, Option.none⟩ = some x ∧ ((w1.setCell ⟨bb, 0, Option.none⟩ x).setCell ⟨bb, 1, Option.none⟩ y).cell? ⟨bb, 1, Option.none⟩ = some y ∧
    ((w1.setCell ⟨bb, 0, Option.none⟩ x).setCell ⟨bb, 1, Option.none⟩ y).heap[bb]? = some (.cells #[x, y] t (0, 0)) := by
  have h1 := heap_setCell_same w1 bb 0 _ _ x h
  have h2 := heap_setCell_same (w1.setCell ⟨bb, 0, Option.none⟩ x) bb 1 _ _ y h1
  exact ⟨by simp [World.cell?, h2], by simp [World.cell?, h2], by rw [h2]; rfl⟩
theorem two_set_kb (w1 : World) (bb : Nat) (x y : Value) : KB (fun b => b = bb) w1 ((w1.setCell ⟨bb, 0, Option.none⟩ x).setCell ⟨bb, 1, Option.none⟩ y) :=
  (KB.of_grown (grown_set w1 bb 0 x) (fun b _ q => by injection q with q; exact q.symm)).trans (KB.of_grown (grown_set (w1.setCell ⟨bb, 0, Option.none⟩ x) bb 1 y) (fun b _ q => by injection q with q; exact q.symm))
theorem MemW.mmI {w : World} {b0 gv cv gc cc : Nat} {p : Pg} {vals : List Int} {cs : List Cs} {S : Nat → Prop} (h : MemW w b0 gv cv gc cc p vals cs) (hS : ∀ b, b0 ≤ b → b < w.heap.size → S b) :
    MmI w S ⟨vals, cs⟩ ⟨some ⟨gv, 0, Option.none⟩, cv, some ⟨gc, 0, Option.none⟩, cc⟩ := by
  obtain ⟨lv, mv⟩ := own_cap h.va.row
  obtain ⟨lc, mc⟩ := own_cap h.ce.row
  have e1 := h.va.len
  have e2 := h.ce.len
  refine ⟨by dsimp only; rw [e1]; exact lv, mv, ?_, by dsimp only; rw [e2]; exact lc, mc, ?_⟩
  · dsimp only
    have hr := h.va.row
    rw [e1]
    exact Rw.of_own (f := fun z => [Value.int .i64 z]) (base := b0) (e := 3) (c := cv) (by rw [← List.map_eq_flatMap]; exact hr) e1 (fun _ _ => rfl) (fun _ _ => rfl) hS
  · dsimp only
    have hr := h.ce.row
    rw [e2]
    exact Rw.of_own (f := csL) (base := b0) (e := 83) (c := cc) hr e2 (fun _ _ => rfl) (fun _ _ => rfl) hS
theorem made_size1 (m : Mm) : (m.vals.map (Value.int .i64)).length = (madeCells #[Value.int .i64 0] m.vals.length).size := by
  have := congrArg List.length (made_ints m.vals.length)
  rw [List.length_map, List.length_replicate, Array.length_toList] at this
  rw [List.length_map]
  exact this.symm
theorem made_size2 (m : Mm) : (m.cells.flatMap csL).length = (madeCells #[Value.bool false, .int .i64 0] (m.cells.length * 2)).size := by
  have := congrArg List.length (made_cs m.cells.length)
  rw [csL_len, List.length_replicate, Array.length_toList] at this
  rw [csL_len]
  exact this.symm
theorem infoCsz : (Tryz.prog.info? 83).map (·.size) = some 2 := by kernel_rfl
theorem infoIsz : (Tryz.prog.info? 3).map (·.size) = some 1 := by kernel_rfl

abbrev stV (n : Nat) : Obj := .cells (madeCells #[.int .i64 0] n) 3
abbrev stW (n : Nat) : Obj := .cells (madeCells #[.bool false, .int .i64 0] (n * 2)) 83
abbrev stM (m : Mm) (gv gc : Nat) : Obj := .cells #[.slice (some ⟨gv, 0, Option.none⟩) m.vals.length m.vals.length, .slice (some ⟨gc, 0, Option.none⟩) m.cells.length m.cells.length] 53
/-- The new memory's three blocks. -/
def StC (W : World) (m : Mm) (v10 : Value) (wc : World) : Prop :=
  ∃ gv gc gm, v10 = .pointer (some ⟨gm, 0, Option.none⟩) ∧ wc.heap[gv]? = some (stV m.vals.length) ∧ wc.heap[gc]? = some (stW m.cells.length) ∧ wc.heap[gm]? = some (stM m gv gc) ∧ gv ≠ gc ∧ gv ≠ gm ∧ gc ≠ gm ∧ W.heap.size ≤ gv ∧ W.heap.size ≤ gc ∧ W.heap.size ≤ gm ∧ Below W.heap.size W wc
theorem three_heap (W : World) (o1 o2 o3 : Obj) : ((((W.alloc o1).alloc o2).alloc o3).drew).heap[W.heap.size]? = some o1 ∧ ((((W.alloc o1).alloc o2).alloc o3).drew).heap[W.heap.size + 1]? = some o2 ∧ ((((W.alloc o1).alloc o2).alloc o3).drew).heap[W.heap.size + 1 + 1]? = some o3 ∧ Below W.heap.size W ((((W.alloc o1).alloc o2).alloc o3).drew) := by
  have h1 := heap_alloc_new W o1
  have h2 := heap_alloc_new (W.alloc o1) o2
  have h3 := heap_alloc_new ((W.alloc o1).alloc o2) o3
  simp only [World.size_alloc] at h2 h3
  refine ⟨(Lib.alloc_old _ _ _ (by simp only [World.size_alloc]; omega)).trans ((Lib.alloc_old _ _ _ (by simp only [World.size_alloc]; omega)).trans h1), (Lib.alloc_old _ _ _ (by simp only [World.size_alloc]; omega)).trans h2, h3, ?_⟩
  have b1 := box_below W o1
  have b2 := below_two b1 (box_below (W.alloc o1) o2) b1.size
  exact below_drew (below_two b2 (box_below ((W.alloc o1).alloc o2) o3) b2.size)
theorem stc_VWM (W : World) (m : Mm) : StC W m (.pointer (some ⟨(W.heap.size + 1 + 1), 0, Option.none⟩)) ((((W.alloc (stV m.vals.length)).alloc (stW m.cells.length)).alloc (stM m W.heap.size (W.heap.size + 1))).drew) := by
  obtain ⟨h0, h1, h2, hb⟩ := three_heap W (stV m.vals.length) (stW m.cells.length) (stM m W.heap.size (W.heap.size + 1))
  exact ⟨_, _, _, rfl, h0, h1, h2, by omega, by omega, by omega, by omega, by omega, by omega, hb⟩
theorem stc_VMW (W : World) (m : Mm) : StC W m (.pointer (some ⟨(W.heap.size + 1), 0, Option.none⟩)) ((((W.alloc (stV m.vals.length)).alloc (stM m W.heap.size (W.heap.size + 1 + 1))).alloc (stW m.cells.length)).drew) := by
  obtain ⟨h0, h1, h2, hb⟩ := three_heap W (stV m.vals.length) (stM m W.heap.size (W.heap.size + 1 + 1)) (stW m.cells.length)
  exact ⟨_, _, _, rfl, h0, h2, h1, by omega, by omega, by omega, by omega, by omega, by omega, hb⟩
theorem stc_WVM (W : World) (m : Mm) : StC W m (.pointer (some ⟨(W.heap.size + 1 + 1), 0, Option.none⟩)) ((((W.alloc (stW m.cells.length)).alloc (stV m.vals.length)).alloc (stM m (W.heap.size + 1) W.heap.size)).drew) := by
  obtain ⟨h0, h1, h2, hb⟩ := three_heap W (stW m.cells.length) (stV m.vals.length) (stM m (W.heap.size + 1) W.heap.size)
  exact ⟨_, _, _, rfl, h1, h0, h2, by omega, by omega, by omega, by omega, by omega, by omega, hb⟩
theorem stc_WMV (W : World) (m : Mm) : StC W m (.pointer (some ⟨(W.heap.size + 1), 0, Option.none⟩)) ((((W.alloc (stW m.cells.length)).alloc (stM m (W.heap.size + 1 + 1) W.heap.size)).alloc (stV m.vals.length)).drew) := by
  obtain ⟨h0, h1, h2, hb⟩ := three_heap W (stW m.cells.length) (stM m (W.heap.size + 1 + 1) W.heap.size) (stV m.vals.length)
  exact ⟨_, _, _, rfl, h2, h0, h1, by omega, by omega, by omega, by omega, by omega, by omega, hb⟩
theorem stc_MVW (W : World) (m : Mm) : StC W m (.pointer (some ⟨W.heap.size, 0, Option.none⟩)) ((((W.alloc (stM m (W.heap.size + 1) (W.heap.size + 1 + 1))).alloc (stV m.vals.length)).alloc (stW m.cells.length)).drew) := by
  obtain ⟨h0, h1, h2, hb⟩ := three_heap W (stM m (W.heap.size + 1) (W.heap.size + 1 + 1)) (stV m.vals.length) (stW m.cells.length)
  exact ⟨_, _, _, rfl, h1, h2, h0, by omega, by omega, by omega, by omega, by omega, by omega, hb⟩
theorem stc_MWV (W : World) (m : Mm) : StC W m (.pointer (some ⟨W.heap.size, 0, Option.none⟩)) ((((W.alloc (stM m (W.heap.size + 1 + 1) (W.heap.size + 1))).alloc (stW m.cells.length)).alloc (stV m.vals.length)).drew) := by
  obtain ⟨h0, h1, h2, hb⟩ := three_heap W (stM m (W.heap.size + 1 + 1) (W.heap.size + 1)) (stW m.cells.length) (stV m.vals.length)
  exact ⟨_, _, _, rfl, h2, h1, h0, by omega, by omega, by omega, by omega, by omega, by omega, hb⟩

set_option maxRecDepth 100000 in
set_option maxHeartbeats 8000000 in
theorem Step_any {w : World} {p : Pg} {l : Pl} {m : Mm} {ml : Ml} {Ai : Option Addr} {ci : Nat} {inp : List Int} (hpg : PgI w (Old w) p l) (hm : MmI w (Old w) m ml) (hi : Rw IaC 1 w (Old w) Ai inp.length inp) :
    Calls Tryz.prog 13 #[pgV p l, mmV m ml, .slice Ai inp.length ci] w (RetStp p m inp w) := by
  obtain ⟨B1, k1, B2, k2, B3, k3, B4, k4⟩ := l
  obtain ⟨D1, d1, D2, d2⟩ := ml
  have hb1 := box_below w (Obj.cells (pgC p ⟨B1, k1, B2, k2, B3, k3, B4, k4⟩) 35)
  have hb2 := box_below (w.alloc (Obj.cells (pgC p ⟨B1, k1, B2, k2, B3, k3, B4, k4⟩) 35)) (Obj.cells (mmC m ⟨D1, d1, D2, d2⟩) 53)
  have hb3 := box_below ((w.alloc (Obj.cells (pgC p ⟨B1, k1, B2, k2, B3, k3, B4, k4⟩) 35)).alloc (Obj.cells (mmC m ⟨D1, d1, D2, d2⟩) 53)) (Obj.cells #[.slice Option.none 0 0, .slice Option.none 0 0] 53)
  have hb0 := below_two (below_two hb1 hb2 hb1.size) hb3 (below_two hb1 hb2 hb1.size).size
  have hsb := three_boxes w p ⟨B1, k1, B2, k2, B3, k3, B4, k4⟩ m ⟨D1, d1, D2, d2⟩
  have HC := Lib.hid (Verify_any (hpg.below hb0))
  obtain ⟨va, vm, ve, hvp⟩ : ∃ a b c, verP p = (a, b, c) := ⟨_, _, _, rfl⟩
  have HVP := Lib.hid hvp
  have HPG := Lib.hid hpg
  have HMM := Lib.hid hm
  have HI := Lib.hid hi
  have HB := Lib.hid hb0
  have HSB := Lib.hid hsb
  rw [hvp] at HC
  have HSC := Lib.hid (show scanS p m inp = if (verP p).2.2 ≠ 0 ∨ readB p inp = false then (mmNil, 1) else if fitsB p m = false then (mmNil, 20) else (scanP p m inp, 0) from rfl)
  clear hb1 hb2 hb3 hb0 hvp hpg hm hi hsb
  go_enter Tryz.func13, Tryz.ntmps13
  go_wp2_with fail
  refine HC.out.mono ?_
  rintro e w1 ⟨rfl, hb3⟩
  dsimp only
  generalize ((w.alloc (Obj.cells (pgC p ⟨B1, k1, B2, k2, B3, k3, B4, k4⟩) 35)).alloc (Obj.cells (mmC m ⟨D1, d1, D2, d2⟩) 53)).alloc (Obj.cells #[.slice Option.none 0 0, .slice Option.none 0 0] 53) = W2 at *
  have hsb := HSB.out.below hb3
  obtain ⟨q0, q1, q2, q3, t0, t1, r0, r1, f0, f1⟩ := hsb.cells
  have hbw := below_two HB.out hb3 HB.out.size
  have HBW := Lib.hid hbw
  have hl2 := hsb.lt
  have hl1 : w.heap.size + 1 < w1.heap.size := by omega
  have hl0 : w.heap.size < w1.heap.size := by omega
  have HSB1 := Lib.hid hsb
  clear hb3 hsb
  by_cases hve : ve = 0
  case neg =>
    have hvb : (ve != 0) = true := by simpa using hve
    have HE := Lib.hid (show scanS p m inp = (mmNil, 1) by rw [HSC.out, if_pos (.inl (by rw [HVP.out]; exact hve))])
    have HSET := Lib.hid (st_back (n := w.heap.size + 2) hbw (by omega) (.slice Option.none 0 0) (.slice Option.none 0 0))
    clear hve hbw
    go_wp2
    refine bodyPost_ret (v := .tuple #[.agg #[.slice Option.none 0 0, .slice Option.none 0 0], .int .i64 1]) ?_ rfl ?_
    · simp [results, Tryz.results13, go_sem, r0, r1]
    · exact RetStp.none HE.out HSET.out
  subst hve
  have HV0 := Lib.hid (show (verP p).2.2 = 0 by rw [HVP.out])
  have HRD := Lib.hid (readable_any (ci := ci) (HPG.out.below hbw) (fun b q => q) (HI.out.mono IaC.mono (S' := Old w1) (fun b q => Nat.lt_of_lt_of_le q hbw.size) (keepOn_below hbw fun _ q => q)))
  obtain ⟨rb, hrb⟩ : ∃ rb, readB p inp = rb := ⟨_, rfl⟩
  have HRB := Lib.hid hrb
  rw [hrb] at HRD
  clear hrb hbw
  go_wp2_with fail
  refine HRD.out.mono ?_
  rintro e w3 ⟨rfl, hb3⟩
  have hsb := HSB1.out.below hb3
  have hbw := below_two HBW.out hb3 HBW.out.size
  clear q0 q1 q2 q3 t0 t1 r0 r1 f0 f1 hl0 hl1 hl2 HRD
  obtain ⟨q0, q1, q2, q3, t0, t1, r0, r1, f0, f1⟩ := hsb.cells
  have HBW3 := Lib.hid hbw
  have hl2 := hsb.lt
  have hl1 : w.heap.size + 1 < w3.heap.size := by omega
  have hl0 : w.heap.size < w3.heap.size := by omega
  have HSB3 := Lib.hid hsb
  clear hb3 hsb
  cases rb with
  | false =>
    have HE := Lib.hid (show scanS p m inp = (mmNil, 1) by rw [HSC.out, if_pos (.inr HRB.out)])
    have HSET := Lib.hid (st_back (n := w.heap.size + 2) hbw (by omega) (.slice Option.none 0 0) (.slice Option.none 0 0))
    clear hbw
    go_wp2
    refine bodyPost_ret (v := .tuple #[.agg #[.slice Option.none 0 0, .slice Option.none 0 0], .int .i64 1]) ?_ rfl ?_
    · simp [results, Tryz.results13, go_sem, r0, r1]
    · exact RetStp.none HE.out HSET.out
  | true =>
  have HFI := Lib.hid (fits_any (HPG.out.below hbw) (fun b q => q) (HMM.out.below hbw) (fun j c h => ver_cells HV0.out h))
  obtain ⟨fb, hfb⟩ : ∃ fb, fitsB p m = fb := ⟨_, rfl⟩
  have HFB := Lib.hid hfb
  rw [hfb] at HFI
  clear hfb hbw
  go_wp2_with fail
  refine HFI.out.mono ?_
  rintro e w4 ⟨rfl, hb3⟩
  have hsb := HSB3.out.below hb3
  have hbw := below_two HBW3.out hb3 HBW3.out.size
  clear q0 q1 q2 q3 t0 t1 r0 r1 f0 f1 hl0 hl1 hl2 HFI
  obtain ⟨q0, q1, q2, q3, t0, t1, r0, r1, f0, f1⟩ := hsb.cells
  have HBW4 := Lib.hid hbw
  have hl2 := hsb.lt
  have hl1 : w.heap.size + 1 < w4.heap.size := by omega
  have hl0 : w.heap.size < w4.heap.size := by omega
  have HSB4 := Lib.hid hsb
  clear hb3 hsb
  cases fb with
  | false =>
    have HE := Lib.hid (show scanS p m inp = (mmNil, 20) by rw [HSC.out, if_neg (by rw [HV0.out, HRB.out]; simp), if_pos HFB.out])
    have HSET := Lib.hid (st_back (n := w.heap.size + 2) hbw (by omega) (.slice Option.none 0 0) (.slice Option.none 0 0))
    clear hbw
    go_wp2
    refine bodyPost_ret (v := .tuple #[.agg #[.slice Option.none 0 0, .slice Option.none 0 0], .int .i64 20]) ?_ rfl ?_
    · simp [results, Tryz.results13, go_sem, r0, r1]
    · exact RetStp.none HE.out HSET.out
  | true =>
  have HE := Lib.hid (show scanS p m inp = (scanP p m inp, 0) by rw [HSC.out, if_neg (by rw [HV0.out, HRB.out]; simp), if_neg (by rw [HFB.out]; decide)])
  have HMO := Lib.hid (fits_iff.1 HFB.out)
  obtain ⟨-, hr16, hc64, -⟩ := ver_small HV0.out
  have HVL : Hid (m.vals.length = p.rls.length) := Lib.hid HMO.out.vl
  have HCL : Hid (m.cells.length = p.cells.length) := Lib.hid HMO.out.cl
  have hv16 : m.vals.length ≤ 16 := by rw [HVL.out]; exact hr16
  have hc64' : m.cells.length ≤ 64 := by rw [HCL.out]; exact hc64
  obtain ⟨ti, hti, hzi⟩ := Option.map_eq_some_iff.1 infoNt
  obtain ⟨hz0, hz1, hz2⟩ : ti.zero = some (.int .i64 0) ∧ ti.size = 1 ∧ ti.bytes = 8 := by simpa using hzi
  obtain ⟨tc, htc, hzc⟩ := Option.map_eq_some_iff.1 infoCs
  obtain ⟨hy0, hy1, hy2⟩ : tc.zero = some (.agg #[.bool false, .int .i64 0]) ∧ tc.size = 2 ∧ tc.bytes = 16 := by simpa using hzc
  have hmk1 := fun W => run_makeSlice (P := Tryz.prog) (w := W) 38 3 ti _ Tryz.underlying38 hti hz0 .i64 .i64 (m.vals.length : Int) (m.vals.length : Int) (by omega) (Int.le_refl _) (by rw [hz1]; omega) (by rw [hz2]; omega) (by omega)
  have hmk2 := fun W => run_makeSlice (P := Tryz.prog) (w := W) 43 83 tc _ Tryz.underlying43 htc hy0 .i64 .i64 (m.cells.length : Int) (m.cells.length : Int) (by omega) (Int.le_refl _) (by rw [hy1]; omega) (by rw [hy2]; omega) (by omega)
  rw [hz1, Nat.mul_one, Int.toNat_natCast] at hmk1
  rw [hy1, Int.toNat_natCast] at hmk2
  clear hbw hti hzi hz0 hz1 hz2 htc hzc hy0 hy1 hy2
  go_upto_region 6 with fail
  go_cut [10] (fun v10 wc => StC w4 m v10 wc)
  case first =>
    go_region
    all_goals
      go_wp2
      go_meet
      first
      | with_reducible exact stc_VWM _ _
      | with_reducible exact stc_VMW _ _
      | with_reducible exact stc_WVM _ _
      | with_reducible exact stc_WMV _ _
      | with_reducible exact stc_MVW _ _
      | with_reducible exact stc_MWV _ _
  case rest =>
    rename World => wc
    obtain ⟨gv, gc, gm, rfl, hgv, hgc, hgm, n1, n2, n3, l1, l2, l3, hb6⟩ := hcut
    have hbw := below_two HBW4.out hb6 HBW4.out.size
    have hsb := HSB4.out.below hb6
    clear q0 q1 q2 q3 t0 t1 r0 r1 f0 f1 hl0 hl1 hl2 hmk1 hmk2
    obtain ⟨q0, q1, q2, q3, t0, t1, r0, r1, f0, f1⟩ := hsb.cells
    have hl2 := hsb.lt
    have hl1 : w.heap.size + 1 < wc.heap.size := by omega
    have hl0 : w.heap.size < wc.heap.size := by omega
    have g0 : wc.cell? ⟨gm, 0, Option.none⟩ = some (.slice (some ⟨gv, 0, Option.none⟩) m.vals.length m.vals.length) := by simp [World.cell?, hgm]
    have hlm : gm < wc.heap.size := (Array.getElem?_eq_some_iff.1 hgm).1
    have hlv : gv < wc.heap.size := (Array.getElem?_eq_some_iff.1 hgv).1
    have hlc : gc < wc.heap.size := (Array.getElem?_eq_some_iff.1 hgc).1
    have hws := HBW4.out.size
    have hn4 := HSB4.out.lt
    have hmi := HMM.out.below hbw
    have HGV := Lib.hid hgv
    have HGC := Lib.hid hgc
    have HGM := Lib.hid hgm
    have HSBc := Lib.hid hsb
    have HBWc := Lib.hid hbw
    have HIS := Lib.hid (fun h => ia_src hmi.r1 h)
    have hlen1 := made_size1 m
    have HL1 := Lib.hid hlen1
    clear hgv hgc hgm hb6 hbw hsb hmi hlen1
    go_upto_region 8 with (refine wpList_copy_kb (o := ⟨some 43, _, _, _, _, _⟩) rfl _ _ 38 38 rfl 3 1 Tryz.underlying38 infoIsz _ _ _ _ _ _ rfl rfl gv _ 3 HGV.out (m.vals.map (Value.int .i64)) m.vals.length (Nat.min_self _).symm (by rw [List.length_map, Nat.mul_one]) (fun h => ⟨rfl, HIS.out h⟩) HL1.out (by intro u hu; obtain ⟨z, -, rfl⟩ := List.mem_map.1 hu; rfl) ?_; intro w8 hh8 hk8; have HK8 := Lib.hid hk8; clear hk8)
    have hs8 := HK8.out.size
    have hsb8 := HSBc.out.kb HK8.out (fun b q => by omega)
    have hko8 : KeepOn (Old w) w w8 := fun b hb => by
      have hb' : b < w.heap.size := hb
      exact (HK8.out.block b (by omega) (by omega)).trans (HBWc.out.block b hb')
    clear q0 q1 q2 q3 t0 t1 r0 r1 f0 f1 hl0 hl1 hl2 g0
    obtain ⟨-, -, -, -, -, t1, -, -, -, -⟩ := hsb8.cells
    have hl2 := hsb8.lt
    have hl1 : w.heap.size + 1 < w8.heap.size := by omega
    have hgm8 := (HK8.out.block gm (by omega) (by omega)).trans HGM.out
    have hgc8 := (HK8.out.block gc (by omega) (by omega)).trans HGC.out
    have g1 : w8.cell? ⟨gm, 1, Option.none⟩ = some (.slice (some ⟨gc, 0, Option.none⟩) m.cells.length m.cells.length) := by simp [World.cell?, hgm8]
    have hlm8 : gm < w8.heap.size := by omega
    have HGC8 := Lib.hid hgc8
    have HGM8 := Lib.hid hgm8
    have HSB8 := Lib.hid hsb8
    have HKO8 := Lib.hid hko8
    have HCS := Lib.hid (fun h => cs_src (HMM.out.r2.mono CsC.mono (S' := fun _ => True) (fun _ _ => trivial) hko8) h)
    have HL2 := Lib.hid (made_size2 m)
    have HL3 := Lib.hid (csL_len m.cells)
    clear hgm8 hgc8 hsb8 hko8
    go_upto_region 9 with (refine wpList_copy_kb (o := ⟨some 48, _, _, _, _, _⟩) rfl _ _ 43 43 rfl 83 2 Tryz.underlying43 infoCsz _ _ _ _ _ _ rfl rfl gc _ 83 HGC8.out (m.cells.flatMap csL) m.cells.length (Nat.min_self _).symm HL3.out (fun h => ⟨rfl, HCS.out h⟩) HL2.out (by intro u hu; obtain ⟨z, -, hz⟩ := List.mem_flatMap.1 hu; simp only [csL, List.mem_cons, List.not_mem_nil, or_false] at hz; rcases hz with rfl | rfl <;> rfl) ?_; intro w9 hh9 hk9; have HK9 := Lib.hid hk9; clear hk9)
    have hs9 := HK9.out.size
    have hgv9 := (HK9.out.block gv (by omega) (by omega)).trans hh8.out
    have hsb9 := HSB8.out.kb HK9.out (fun b q => by omega)
    have hgm9 := (HK9.out.block gm (by omega) (by omega)).trans HGM8.out
    have hko9 : KeepOn (Old w) w w9 := fun b hb => by
      have hb' : b < w.heap.size := hb
      exact (HK9.out.block b (by omega) (by omega)).trans (HKO8.out b hb)
    have hbw9 : Below w.heap.size w w9 := ⟨HK9.out.os.trans (HK8.out.os.trans HBWc.out.os), HK9.out.tape.trans (HK8.out.tape.trans HBWc.out.tape), HK9.out.output.trans (HK8.out.output.trans HBWc.out.output), by omega, hko9⟩
    have hmm9 : MemW w9 w.heap.size gv p.rls.length gc p.cells.length p m.vals m.cells :=
      ⟨va_mk hgv9 (by rw [List.toList_toArray]) HVL.out (by omega) (by omega), ce_mk hh9.out (by rw [List.toList_toArray]) HCL.out (by omega) (by omega), n1⟩
    have hio := read_inp HRB.out
    have hex := exec_any (w := w9) (p := p) (l := ⟨B1, k1, B2, k2, B3, k3, B4, k4⟩) (Ai := Ai) (ci := ci) (inp := inp) (HPG.out.mono (fun b q => by
      have q' : b < w.heap.size := q
      omega) hko9) hmm9 (HI.out.mono IaC.mono (fun b q => by
      have q' : b < w.heap.size := q
      omega) hko9) HV0.out hio HMO.out
    rw [← HVL.out, ← HCL.out] at hex
    have HEX := Lib.hid hex
    have HSB9 := Lib.hid hsb9
    have HGM9 := Lib.hid hgm9
    have HBW9 := Lib.hid hbw9
    clear t1 hl1 hl2 g1 hlm8
    obtain ⟨q0, q1, q2, q3, -, -, -, -, -, -⟩ := hsb9.cells
    have g0 : w9.cell? ⟨gm, 0, Option.none⟩ = some (.slice (some ⟨gv, 0, Option.none⟩) m.vals.length m.vals.length) := by simp [World.cell?, hgm9]
    have g1 : w9.cell? ⟨gm, 1, Option.none⟩ = some (.slice (some ⟨gc, 0, Option.none⟩) m.cells.length m.cells.length) := by simp [World.cell?, hgm9]
    have hl0 : w.heap.size < w9.heap.size := by omega
    have hlm9 : gm < w9.heap.size := by omega
    clear hgv9 hsb9 hgm9 hko9 hbw9 hmm9 hio hex hh8 hh9
    go_wp2_with fail
    refine HEX.out.mono ?_
    rintro e w10 ⟨rfl, hmm10, hk10⟩
    have hs10 := hk10.size
    have hsb10 := HSB9.out.kb hk10 (fun b q => by rcases q with q | q <;> omega)
    have hgm10 := (hk10.block gm (by omega) (fun q => by rcases q with q | q <;> omega)).trans HGM9.out
    clear q0 q1 q2 q3 g0 g1 hl0 hlm9
    obtain ⟨-, -, -, -, -, -, r0, r1, f0, f1⟩ := hsb10.cells
    have g0 : w10.cell? ⟨gm, 0, Option.none⟩ = some (.slice (some ⟨gv, 0, Option.none⟩) m.vals.length m.vals.length) := by simp [World.cell?, hgm10]
    have g1 : w10.cell? ⟨gm, 1, Option.none⟩ = some (.slice (some ⟨gc, 0, Option.none⟩) m.cells.length m.cells.length) := by simp [World.cell?, hgm10]
    have hlm10 : gm < w10.heap.size := by omega
    have hl2 := hsb10.lt
    obtain ⟨z0, z1, -⟩ := two_set_at hsb10.b2 (.slice (some ⟨gv, 0, Option.none⟩) m.vals.length m.vals.length) (.slice (some ⟨gc, 0, Option.none⟩) m.cells.length m.cells.length)
    have hk11 := two_set_kb w10 (w.heap.size + 2) (.slice (some ⟨gv, 0, Option.none⟩) m.vals.length m.vals.length) (.slice (some ⟨gc, 0, Option.none⟩) m.cells.length m.cells.length)
    have HMM10 := Lib.hid (hmm10.keep (hk11.block gv hmm10.va.lt (by omega)) (hk11.block gc hmm10.ce.lt (by omega)))
    have hb10 : Below w.heap.size w9 w10 := hk10.below (by omega) (fun b q => by rcases q with q | q <;> omega)
    have HB11 := Lib.hid (st_back (n := w.heap.size + 2) (HBW9.out.trans hb10) (by omega) (.slice (some ⟨gv, 0, Option.none⟩) m.vals.length m.vals.length) (.slice (some ⟨gc, 0, Option.none⟩) m.cells.length m.cells.length))
    clear hsb10 hgm10 hmm10 hk10 hk11 hb10
    go_wp2
    refine bodyPost_ret (v := .tuple #[.agg #[.slice (some ⟨gv, 0, Option.none⟩) m.vals.length m.vals.length, .slice (some ⟨gc, 0, Option.none⟩) m.cells.length m.cells.length], .int .i64 0]) ?_ rfl ?_
    · simp [results, Tryz.results13, go_sem, z0, z1]
    · have e1 : (scanP p m inp).vals.length = m.vals.length := HMM10.out.va.len.trans HVL.out.symm
      have e2 : (scanP p m inp).cells.length = m.cells.length := HMM10.out.ce.len.trans HCL.out.symm
      refine ⟨⟨some ⟨gv, 0, Option.none⟩, m.vals.length, some ⟨gc, 0, Option.none⟩, m.cells.length⟩, ?_, ?_, HB11.out⟩
      · rw [HE.out]
        show _ = Ending.returned (.tuple #[.agg #[.slice (some ⟨gv, 0, Option.none⟩) (scanP p m inp).vals.length m.vals.length, .slice (some ⟨gc, 0, Option.none⟩) (scanP p m inp).cells.length m.cells.length], .int .i64 0])
        rw [e1, e2]
      · rw [HE.out]
        exact HMM10.out.mmI fun b h1 h2 => ⟨h1, h2⟩
end Go.Proofs.YtcikenlflcofbaaGreatDoor
