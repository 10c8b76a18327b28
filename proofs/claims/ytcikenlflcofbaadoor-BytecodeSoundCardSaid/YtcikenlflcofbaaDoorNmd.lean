/-
  bytecode.named, and slices.Clone of a []api.Expr.
-/
import Derived.Test.YtcikenlflcofbaaDoorFit
import Derived.Test.YtcikenlflcofbaaDoorLV
namespace Go.Proofs.YtcikenlflcofbaaDoor
open Go.RowKit

theorem infoExp : (Tryd.prog.info? 49).map (fun i => (i.zero, i.size, i.bytes)) = some (some (.agg #[.int .i64 0, .int .i64 0, .string ⟨#[]⟩, .slice Option.none 0 0]), 4, 56) := by kernel_rfl
set_option maxRecDepth 100000 in
theorem clone_ex (A : Option Addr) (c n : Nat) (cells : List Value) (w : World) (hs : Src w 4 A n cells) (hA : A = Option.none → n = 0) (h1 : ∀ u ∈ cells, u.oneCell' = true) (hn : n ≤ 100000) :
    Calls Tryd.prog 34 #[.slice A n c] w (RetRow 49 4 n cells w) := by
  obtain ⟨i0, hi, hz0, hz1, hz2⟩ := info_parts infoExp
  have hnil := fun wx => Lib.run_eql_slice_nil (P := Tryd.prog) wx 41 49 A n c 0 0 Tryd.underlying41
  cases A with
  | none =>
    obtain rfl := hA rfl
    have hc : cells = [] := List.eq_nil_of_length_eq_zero (by simpa using hs.1)
    subst hc
    go_enter Tryd.func34, Tryd.ntmps34
    go_wp2
    go_ret
    exact RetRow.mk (World.ownsRow_nil _ w.heap.size _ _) (Nat.le_refl _) (Below.refl _ _)
  | some ad =>
    have hs2 : Src (w.alloc (Obj.cells #[] 49)) 4 (some ad) n cells := ⟨hs.1, fun hpos => by
      obtain ⟨ad', e, hcell⟩ := hs.2 hpos
      exact ⟨ad', e, fun j u hu => by rw [World.cell?_alloc_lt w _ _ (block_lt_of_cell (hcell j u hu))]; exact hcell j u hu⟩⟩
    have hown : (w.alloc (Obj.cells #[] 49)).ownsRow w.heap.size 49 4 (.slice (some ⟨w.heap.size, 0, Option.none⟩) 0 0) 0 [] := World.ownsRow_made w #[] 0 (Nat.le_refl _) (Nat.zero_le _) rfl
    have hb := box_below w (Obj.cells #[] 49)
    have HS := Lib.hid hs2
    have HO := Lib.hid hown
    clear hs hs2 hown hA
    go_enter Tryd.func34, Tryd.ntmps34
    go_wp2_with (first
      | (at_builtin; refine wpList_append_src _ _ 41 rfl rfl Tryd.underlying41 hi hz0 hz1 hz2 rfl (by decide) rfl HO.out hb rfl HS.out h1 (by unfold maxLen; omega) (by omega) (by simp) ?_; intro v' w' hown' hbel' _))
    go_ret
    exact RetRow.mk (by simpa using hown') (Nat.le_refl _) hbel'
structure NmOk (p : Pg) (c : Ins) : Prop where
  inp : c.op = 30 → ∃ u : Nat, c.a = (u : Int) ∧ u < p.ins.length
  rul : c.op = 31 → ∃ u : Nat, c.a = (u : Int) ∧ u < p.rls.length
  cel : c.op = 19 ∨ c.op = 20 → ∃ u : Nat, c.a = (u : Int) ∧ u < p.cells.length
  wfo : (Lit.int .i64 c.op).wf = true
  wfa : (Lit.int .i64 c.a).wf = true
  wfn : ∀ (j : Nat) (l : Cl), p.cells[j]? = some l → (Lit.int .i64 l.n).wf = true
def RetNm (p : Pg) (c : Ins) (w : World) (e : Ending) (w' : World) : Prop :=
  ∃ op n nm, (∀ ks, namedP p c ks = .mk op n nm ks) ∧ e = .returned (exV op n nm Option.none 0 0) ∧ ExP op n nm ∧ Below w.heap.size w w'
theorem set4_back {w W : World} {n : Nat} (h : Below w.heap.size w W) (hn : w.heap.size ≤ n) (v0 v1 v2 v3 : Value) : Below w.heap.size w (set4 W n v0 v1 v2 v3) :=
  below_setg (below_setg (below_setg (below_setg h hn (Nat.le_refl _) 0 v0) hn (Nat.le_refl _) 1 v1) hn (Nat.le_refl _) 2 v2) hn (Nat.le_refl _) 3 v3

set_option maxRecDepth 100000 in
set_option maxHeartbeats 8000000 in
theorem named_any {w : World} {p : Pg} {l : Pl} {S : Nat → Prop} (c : Ins) (hpg : PgI w S p l) (hS : ∀ b, S b → b < w.heap.size) (hc : NmOk p c) : Calls Tryd.prog 33 #[pgV p l, .agg #[.int .i64 c.op, .int .i64 c.a]] w (RetNm p c w) := by
  obtain ⟨op, a⟩ := c
  obtain ⟨B1, k1, B2, k2, B3, k3, B4, k4⟩ := l
  have hb1 := box_below w (Obj.cells (pgC p ⟨B1, k1, B2, k2, B3, k3, B4, k4⟩) 32)
  have hb2 := box_below (w.alloc (Obj.cells (pgC p ⟨B1, k1, B2, k2, B3, k3, B4, k4⟩) 32)) (Obj.cells #[.int .i64 op, .int .i64 a] 37)
  have hb12 := below_two hb1 hb2 hb1.size
  have hb3 := box_below ((w.alloc (Obj.cells (pgC p ⟨B1, k1, B2, k2, B3, k3, B4, k4⟩) 32)).alloc (Obj.cells #[.int .i64 op, .int .i64 a] 37)) (Obj.cells #[.int .i64 0, .int .i64 0, .string ⟨#[]⟩, .slice Option.none 0 0] 49)
  have hb0 := below_two hb12 hb3 hb12.size
  have hz := XV.new ((w.alloc (Obj.cells (pgC p ⟨B1, k1, B2, k2, B3, k3, B4, k4⟩) 32)).alloc (Obj.cells #[.int .i64 op, .int .i64 a] 37)) 0 0 [] Option.none 0 0
  have hs2 : ((w.alloc (Obj.cells (pgC p ⟨B1, k1, B2, k2, B3, k3, B4, k4⟩) 32)).alloc (Obj.cells #[.int .i64 op, .int .i64 a] 37)).heap.size = w.heap.size + 2 := by simp only [World.size_alloc]
  have hx1 := heap_alloc_new (w.alloc (Obj.cells (pgC p ⟨B1, k1, B2, k2, B3, k3, B4, k4⟩) 32)) (Obj.cells #[.int .i64 op, .int .i64 a] 37)
  rw [World.size_alloc] at hx1
  have hx0 := (hb2.block w.heap.size (by rw [World.size_alloc]; omega)).trans (heap_alloc_new w (Obj.cells (pgC p ⟨B1, k1, B2, k2, B3, k3, B4, k4⟩) 32))
  have hy0 := (hb3.block w.heap.size (by omega)).trans hx0
  have hy1 := (hb3.block (w.heap.size + 1) (by omega)).trans hx1
  have hs3 := World.size_alloc ((w.alloc (Obj.cells (pgC p ⟨B1, k1, B2, k2, B3, k3, B4, k4⟩) 32)).alloc (Obj.cells #[.int .i64 op, .int .i64 a] 37)) (Obj.cells #[.int .i64 0, .int .i64 0, .string ⟨#[]⟩, .slice Option.none 0 0] 49)
  rw [hs2] at hz hs3
  have HPG := Lib.hid (hpg.mono (fun _ q => q) (keepOn_below hb0 fun b q => hS b q))
  have HB := Lib.hid hb0
  have HZ := Lib.hid hz
  have HY0 := Lib.hid hy0
  have HY1 := Lib.hid hy1
  have HS3 := Lib.hid hs3
  have HS := Lib.hid hS
  obtain ⟨o1, o2, o3, o4, o5, o6⟩ := hc
  dsimp only at o1 o2 o3 o4 o5
  have HOK := Lib.hid (And.intro o4 o5)
  have HO6 := Lib.hid o6
  have pm1 := hpg.m1
  have ph1 := hpg.h1
  have pm2 := hpg.m2
  have ph2 := hpg.h2
  have pm3 := hpg.m3
  have ph3 := hpg.h3
  dsimp only at pm1 ph1 pm2 ph2 pm3 ph3
  unfold maxLen at pm1 pm2 pm3
  clear hb1 hb2 hb12 hb3 hb0 hz hs2 hx1 hx0 hy0 hy1 hs3 hpg hS o4 o5 o6
  go_enter Tryd.func33, Tryd.ntmps33
  go_upto_region 1 with fail
  generalize ((w.alloc (Obj.cells (pgC p ⟨B1, k1, B2, k2, B3, k3, B4, k4⟩) 32)).alloc (Obj.cells #[.int .i64 op, .int .i64 a] 37)).alloc (Obj.cells #[.int .i64 0, .int .i64 0, .string ⟨#[]⟩, .slice Option.none 0 0] 49) = W at *
  have hy0 := HY0.out
  have hy1 := HY1.out
  have hs3 := HS3.out
  have q0 : W.cell? ⟨w.heap.size, 0, Option.none⟩ = some (.slice B1 p.ins.length k1) := by simp [World.cell?, hy0]
  have q1 : W.cell? ⟨w.heap.size, 1, Option.none⟩ = some (.slice B2 p.rls.length k2) := by simp [World.cell?, hy0]
  have q2 : W.cell? ⟨w.heap.size, 2, Option.none⟩ = some (.slice B3 p.cells.length k3) := by simp [World.cell?, hy0]
  have t0 : W.cell? ⟨w.heap.size + 1, 0, Option.none⟩ = some (.int .i64 op) := by simp [World.cell?, hy1]
  have t1 : W.cell? ⟨w.heap.size + 1, 1, Option.none⟩ = some (.int .i64 a) := by simp [World.cell?, hy1]
  obtain ⟨z0, z1, z2, z3, f0, f1, f2, f3⟩ := HZ.out.cells
  have hl0 : w.heap.size < W.heap.size := by omega
  have hl1 : w.heap.size + 1 < W.heap.size := by omega
  have hl2 : w.heap.size + 2 < W.heap.size := by omega
  clear hy0 hy1 hs3
  rcases (show op = 1 ∨ op = 2 ∨ op = 30 ∨ op = 31 ∨ op = 19 ∨ op = 20 ∨ (op ≠ 1 ∧ op ≠ 2 ∧ op ≠ 30 ∧ op ≠ 31 ∧ op ≠ 19 ∧ op ≠ 20) by omega) with rfl | rfl | rfl | rfl | rfl | rfl | ⟨e1, e2, e3, e4, e5, e6⟩
  · clear o1 o2 o3
    go_wp2
    have HPUT := put_cells HZ.out 1 a [] Option.none 0 0
    obtain ⟨r0, r1, r2, r3, -, -, -, -⟩ := HPUT.cells
    have HBK := Lib.hid (set4_back HB.out (show w.heap.size ≤ w.heap.size + 2 by omega) (.int .i64 1) (.int .i64 a) (.string ⟨([] : List UInt8).toArray⟩) (.slice Option.none 0 0))
    unfold set4 at r0 r1 r2 r3
    clear HPUT
    refine bodyPost_ret (v := exV 1 a [] Option.none 0 0) (by simp [results, Tryd.results33, go_sem, exV, r0, r1, r2, r3]) rfl ?_
    exact ⟨1, a, [], fun ks => rfl, rfl, ⟨HOK.out.1, HOK.out.2, Nat.zero_le _⟩, HBK.out⟩
  · clear o1 o2 o3
    go_wp2
    have HPUT := put_cells HZ.out 2 a [] Option.none 0 0
    obtain ⟨r0, r1, r2, r3, -, -, -, -⟩ := HPUT.cells
    have HBK := Lib.hid (set4_back HB.out (show w.heap.size ≤ w.heap.size + 2 by omega) (.int .i64 2) (.int .i64 a) (.string ⟨([] : List UInt8).toArray⟩) (.slice Option.none 0 0))
    unfold set4 at r0 r1 r2 r3
    clear HPUT
    refine bodyPost_ret (v := exV 2 a [] Option.none 0 0) (by simp [results, Tryd.results33, go_sem, exV, r0, r1, r2, r3]) rfl ?_
    exact ⟨2, a, [], fun ks => rfl, rfl, ⟨HOK.out.1, HOK.out.2, Nat.zero_le _⟩, HBK.out⟩
  · obtain ⟨u, rfl, hu⟩ := o1 rfl
    obtain ⟨b, o, sg, hA, hSb, hx, hxl, -, y0, y1⟩ := sgAt HPG.out.r1 hu
    have hA2 : B1 = some ⟨b, o, Option.none⟩ := hA
    subst hA2
    have hbk := HS.out b hSb
    have hui : (u : Int) < (p.ins.length : Int) := by omega
    have HX := Lib.hid hx
    have HXL := Lib.hid hxl
    clear o1 o2 o3 hx hSb hxl
    obtain ⟨nm, kd⟩ := sg
    dsimp only at y0 y1
    go_wp2
    have HPUT := put_cells HZ.out 3 0 nm Option.none 0 0
    obtain ⟨r0, r1, r2, r3, -, -, -, -⟩ := HPUT.cells
    have HBK := Lib.hid (set4_back HB.out (show w.heap.size ≤ w.heap.size + 2 by omega) (.int .i64 3) (.int .i64 0) (.string ⟨(nm : List UInt8).toArray⟩) (.slice Option.none 0 0))
    unfold set4 at r0 r1 r2 r3
    clear HPUT
    refine bodyPost_ret (v := exV 3 0 nm Option.none 0 0) (by simp [results, Tryd.results33, go_sem, exV, r0, r1, r2, r3]) rfl ?_
    exact ⟨3, 0, nm, fun ks => by show Ex.mk 3 0 (p.ins.getD ((u : Int)).toNat ⟨[], 0⟩).nm ks = _; rw [Int.toNat_natCast, List.getD_eq_getElem?_getD, HX.out]; rfl, rfl, ⟨rfl, rfl, HXL.out⟩, HBK.out⟩
  · obtain ⟨u, rfl, hu⟩ := o2 rfl
    obtain ⟨b, o, nm, hA, hSb, hx, hxl, y0⟩ := nmAt HPG.out.r2 hu
    have hA2 : B2 = some ⟨b, o, Option.none⟩ := hA
    subst hA2
    have hbk := HS.out b hSb
    have hui : (u : Int) < (p.rls.length : Int) := by omega
    have HX := Lib.hid hx
    have HXL := Lib.hid hxl
    clear o1 o2 o3 hx hSb hxl
    go_wp2
    have HPUT := put_cells HZ.out 3 0 nm Option.none 0 0
    obtain ⟨r0, r1, r2, r3, -, -, -, -⟩ := HPUT.cells
    have HBK := Lib.hid (set4_back HB.out (show w.heap.size ≤ w.heap.size + 2 by omega) (.int .i64 3) (.int .i64 0) (.string ⟨(nm : List UInt8).toArray⟩) (.slice Option.none 0 0))
    unfold set4 at r0 r1 r2 r3
    clear HPUT
    refine bodyPost_ret (v := exV 3 0 nm Option.none 0 0) (by simp [results, Tryd.results33, go_sem, exV, r0, r1, r2, r3]) rfl ?_
    exact ⟨3, 0, nm, fun ks => by show Ex.mk 3 0 (p.rls.getD ((u : Int)).toNat []) ks = _; rw [Int.toNat_natCast, List.getD_eq_getElem?_getD, HX.out]; rfl, rfl, ⟨rfl, rfl, HXL.out⟩, HBK.out⟩
  · obtain ⟨u, rfl, hu⟩ := o3 (by decide)
    obtain ⟨b, o, lc, hA, hSb, hx, y0, y1⟩ := ceAt HPG.out.r3 hu
    have hA2 : B3 = some ⟨b, o, Option.none⟩ := hA
    subst hA2
    have hbk := HS.out b hSb
    have hui : (u : Int) < (p.cells.length : Int) := by omega
    have HX := Lib.hid hx
    have HWF := Lib.hid (HO6.out u lc hx)
    clear o1 o2 o3 hx hSb
    obtain ⟨lop, ln⟩ := lc
    dsimp only at y0 y1
    go_upto_region 11 with fail
    go_region
    all_goals
      go_wp2
      have HPUT := put_cells HZ.out 19 ln [] Option.none 0 0
      obtain ⟨r0, r1, r2, r3, -, -, -, -⟩ := HPUT.cells
      have HBK := Lib.hid (set4_back HB.out (show w.heap.size ≤ w.heap.size + 2 by omega) (.int .i64 19) (.int .i64 ln) (.string ⟨([] : List UInt8).toArray⟩) (.slice Option.none 0 0))
      unfold set4 at r0 r1 r2 r3
      clear HPUT
      refine bodyPost_ret (v := exV 19 ln [] Option.none 0 0) (by simp [results, Tryd.results33, go_sem, exV, r0, r1, r2, r3]) rfl ?_
      exact ⟨19, ln, [], fun ks => by show Ex.mk 19 (p.cells.getD ((u : Int)).toNat ⟨0, 0⟩).n [] ks = _; rw [Int.toNat_natCast, List.getD_eq_getElem?_getD, HX.out]; rfl, rfl, ⟨rfl, HWF.out, Nat.zero_le _⟩, below_drew HBK.out⟩
  · obtain ⟨u, rfl, hu⟩ := o3 (by decide)
    obtain ⟨b, o, lc, hA, hSb, hx, y0, y1⟩ := ceAt HPG.out.r3 hu
    have hA2 : B3 = some ⟨b, o, Option.none⟩ := hA
    subst hA2
    have hbk := HS.out b hSb
    have hui : (u : Int) < (p.cells.length : Int) := by omega
    have HX := Lib.hid hx
    have HWF := Lib.hid (HO6.out u lc hx)
    clear o1 o2 o3 hx hSb
    obtain ⟨lop, ln⟩ := lc
    dsimp only at y0 y1
    go_upto_region 11 with fail
    go_region
    all_goals
      go_wp2
      have HPUT := put_cells HZ.out 20 ln [] Option.none 0 0
      obtain ⟨r0, r1, r2, r3, -, -, -, -⟩ := HPUT.cells
      have HBK := Lib.hid (set4_back HB.out (show w.heap.size ≤ w.heap.size + 2 by omega) (.int .i64 20) (.int .i64 ln) (.string ⟨([] : List UInt8).toArray⟩) (.slice Option.none 0 0))
      unfold set4 at r0 r1 r2 r3
      clear HPUT
      refine bodyPost_ret (v := exV 20 ln [] Option.none 0 0) (by simp [results, Tryd.results33, go_sem, exV, r0, r1, r2, r3]) rfl ?_
      exact ⟨20, ln, [], fun ks => by show Ex.mk 20 (p.cells.getD ((u : Int)).toNat ⟨0, 0⟩).n [] ks = _; rw [Int.toNat_natCast, List.getD_eq_getElem?_getD, HX.out]; rfl, rfl, ⟨rfl, HWF.out, Nat.zero_le _⟩, below_drew HBK.out⟩
  · have b1 : (op == 1) = false := by simpa using e1
    have b2 : (op == 2) = false := by simpa using e2
    have b3 : (op == 30) = false := by simpa using e3
    have b4 : (op == 31) = false := by simpa using e4
    have b5 : (op == 19) = false := by simpa using e5
    have b6 : (op == 20) = false := by simpa using e6
    have HNE := Lib.hid (And.intro e1 (And.intro e2 (And.intro e3 (And.intro e4 (And.intro e5 e6)))))
    clear o1 o2 o3 e1 e2 e3 e4 e5 e6
    go_wp2
    have HPUT := put_cells HZ.out op 0 [] Option.none 0 0
    obtain ⟨r0, r1, r2, r3, -, -, -, -⟩ := HPUT.cells
    have HBK := Lib.hid (set4_back HB.out (show w.heap.size ≤ w.heap.size + 2 by omega) (.int .i64 op) (.int .i64 0) (.string ⟨([] : List UInt8).toArray⟩) (.slice Option.none 0 0))
    unfold set4 at r0 r1 r2 r3
    clear HPUT
    refine bodyPost_ret (v := exV op 0 [] Option.none 0 0) (by simp [results, Tryd.results33, go_sem, exV, r0, r1, r2, r3]) rfl ?_
    exact ⟨op, 0, [], fun ks => by obtain ⟨e1, e2, e3, e4, e5, e6⟩ := HNE.out; unfold namedP; dsimp only; rw [if_neg (by omega), if_neg e3, if_neg e4, if_neg (by omega)], rfl, ⟨HOK.out.1, rfl, Nat.zero_le _⟩, HBK.out⟩
end Go.Proofs.YtcikenlflcofbaaDoor
