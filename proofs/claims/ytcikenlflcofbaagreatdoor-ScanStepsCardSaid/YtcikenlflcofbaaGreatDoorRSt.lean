/-
  The reference's Step.
-/
import Derived.Test.YtcikenlflcofbaaGreatDoorRFt
import Derived.Deep.RegionHeld3
namespace Go.Proofs.YtcikenlflcofbaaGreatDoor
open Go.RowKit

theorem src_old {w w' : World} {size n : Nat} {A : Option Addr} {xs : List Value} (h : Src w size A n xs) (hb : Below w.heap.size w w') : Src w' size A n xs := by
  refine ⟨h.1, fun hn => ?_⟩
  obtain ⟨ad, e, hc⟩ := h.2 hn
  refine ⟨ad, e, fun j u hu => ?_⟩
  have h1 := hc j u hu
  have hl := block_lt_of_cell h1
  exact (World.cell?_of_block (hb.block _ hl)).trans h1
theorem own_empty {w : World} {base g : Nat} {e : TypeId} {size : Nat} (h : w.heap[g]? = some (Obj.cells #[] e)) (hb : base ≤ g) : w.ownsRow base e size (.slice (some ⟨g, 0, Option.none⟩) 0 0) 0 [] :=
  ⟨by simp, .inr ⟨g, 0, #[], rfl, hb, h, Nat.le_refl _, Nat.zero_le _, by simp, by simp⟩⟩
/-- Append to an empty row just made: what was known ahead of the region serves. -/
theorem step_append_fresh {P : Program} {W0 w : World} {ops : Array Oper} {o : Oper} {a : Act} {K : Act → World → Prop} {Q : Exit → Act → World → Prop} {E : Prop} (s x : Operand) (t : TypeId)
    {e : TypeId} {i : TypeInfo} {z : Value} {size bytes g : Nat} {A : Option Addr} {m c : Nat} {news : List Value} (hgd : o.guard = Option.none)
    (ho : o.op = .call { callee := .builtin .append, args := #[s, x], argTypes := #[t, t] })
    (ht : P.underlying t = some (.slice e)) (hi : P.info? e = some i) (hz : i.zero = some z) (hsize : i.size = size) (hby : i.bytes = bytes) (hzs : z.cells.size = size) (hsz : 0 < size)
    (hs : a.eval s = .slice (some ⟨g, 0, Option.none⟩) 0 0) (hx : a.eval x = .slice A m c) (hr : Src W0 size A m news) (h1 : ∀ u ∈ news, u.oneCell' = true)
    (h63 : m ≤ maxLen) (hbytes : m * bytes ≤ 140737488355328)
    (hbel : Below W0.heap.size W0 w) (hg0 : W0.heap.size ≤ g) (hg : w.heap[g]? = some (Obj.cells #[] e))
    (h : ∀ g' c' w', w'.ownsRow W0.heap.size e size (.slice (some ⟨g', 0, Option.none⟩) m c') m news → Below W0.heap.size W0 w' → (∀ b, b < w.heap.size → b ≠ g → w'.heap[b]? = w.heap[b]?) → w.heap.size ≤ w'.heap.size → (g' = g ∨ g' = w.heap.size) → K (a.put o.dst (.slice (some ⟨g', 0, Option.none⟩) m c')) w') :
    if Region.wanted o (yielded ops a.tmps) = true then Oper.wp P o a w K Q else E := by
  have hown := own_empty (size := size) hg hg0
  refine step_append_grown s x t hgd ho ht hi hz hsize hby hzs hsz hs hown hx (src_old hr hbel) h1 (by omega) (by rw [Nat.zero_add]; exact hbytes) hbel.size fun v' w' hown' hgr hv => ?_
  obtain ⟨A', c', rfl, hc1, hc2⟩ := own_shape hown'
  have hA : ∃ g', A' = some ⟨g', 0, Option.none⟩ ∧ (g' = g ∨ g' = w.heap.size) := by
    rcases hown'.2 with ⟨q, -⟩ | ⟨g', _, _, q, -⟩
    · injection q with q
      subst q
      rcases hv with q | q <;> cases q
    · injection q with q
      subst q
      refine ⟨g', rfl, ?_⟩
      rcases hv with q | q
      · left
        injection q
      · right
        injection q
  obtain ⟨g', rfl, hg'⟩ := hA
  rw [Nat.zero_add] at hown' ⊢
  rw [List.nil_append] at hown'
  refine h g' c' w' hown' (hbel.grown hgr hbel.size fun k hk => ?_) (fun b hb hn => hgr.block b hb fun q => ?_) hgr.size hg'
  · have q : some g = some k := hk
    injection q with q
    omega
  · have q' : some b = some g := q
    injection q' with q'
    exact hn q'
theorem hp_alloc (w : World) (o : Obj) : (w.alloc o).heap = w.heap.push o := rfl
theorem hpz : (∀ (w : World) (o : Obj), (w.alloc o).heap = w.heap.push o) ∧ (∀ w : World, w.drew.heap = w.heap) ∧ (∀ (xs : Array Obj) (x : Obj) (i : Nat), (xs.push x)[i]? = if i = xs.size then some x else xs[i]?) ∧ (∀ (xs : Array Obj) (x : Obj), (xs.push x).size = xs.size + 1) ∧ ∀ (h : Decidable True) (a b : Option Obj), @ite _ True h a b = a :=
  ⟨fun _ _ => rfl, fun _ => rfl, fun _ _ _ => Array.getElem?_push, fun _ _ => Array.size_push _, fun _ _ _ => if_pos trivial⟩
theorem hp_drew (w : World) : w.drew.heap = w.heap := rfl
theorem hp_set {b g : Nat} (W : World) (i : Nat) (v : Value) (h : b ≠ g) : (W.setCell ⟨g, i, Option.none⟩ v).heap[b]? = W.heap[b]? := Below.heap_setCell W _ v b h
theorem nil_cells {W : World} {g : Nat} (h : W.heap[g]? = some (Obj.cells #[.slice Option.none 0 0, .slice Option.none 0 0] 53)) : W.cell? ⟨g, 0, Option.none⟩ = some (.slice Option.none 0 0) ∧ W.cell? ⟨g, 1, Option.none⟩ = some (.slice Option.none 0 0) ∧ W.frozen? ⟨g, 0, Option.none⟩ = false ∧ W.frozen? ⟨g, 1, Option.none⟩ = false ∧ g < W.heap.size :=
  ⟨by simp [World.cell?, h], by simp [World.cell?, h], Lib.frozen_of_heap h 0, Lib.frozen_of_heap h 1, (Array.getElem?_eq_some_iff.1 h).1⟩
/-- The memory that Step makes. -/
def StR (W : World) (p : Pg) (m : Mm) (v12 : Value) (wc : World) : Prop :=
  ∃ gm gv gc cv cc, v12 = .pointer (some ⟨gm, 0, Option.none⟩) ∧ Hid (wc.heap[gm]? = some (.cells #[.slice (some ⟨gv, 0, Option.none⟩) m.vals.length cv, .slice (some ⟨gc, 0, Option.none⟩) m.cells.length cc] 53 (0, 0))) ∧
    MemW wc W.heap.size gv cv gc cc p m.vals m.cells ∧ gm ≠ gv ∧ gm ≠ gc ∧ W.heap.size ≤ gm ∧ Below W.heap.size W wc
theorem StR.mk' {W wc : World} {p : Pg} {m : Mm} {gm gv gc cv cc : Nat} (hl1 : m.vals.length = p.rls.length) (hl2 : m.cells.length = p.cells.length) (hm : wc.heap[gm]? = some (.cells #[.slice (some ⟨gv, 0, Option.none⟩) m.vals.length cv, .slice (some ⟨gc, 0, Option.none⟩) m.cells.length cc] 53 (0, 0)))
    (h1 : wc.ownsRow W.heap.size 3 1 (.slice (some ⟨gv, 0, Option.none⟩) m.vals.length cv) m.vals.length (m.vals.map (Value.int .i64))) (h2 : wc.ownsRow W.heap.size 83 2 (.slice (some ⟨gc, 0, Option.none⟩) m.cells.length cc) m.cells.length (m.cells.flatMap csL))
    (hne : gv ≠ gc) (n1 : gm ≠ gv) (n2 : gm ≠ gc) (hg : W.heap.size ≤ gm) (hb : Below W.heap.size W wc) : StR W p m (.pointer (some ⟨gm, 0, Option.none⟩)) wc := by
  refine ⟨gm, gv, gc, cv, cc, rfl, Lib.hid hm, ⟨⟨?_, hl1⟩, ⟨?_, hl2⟩, hne⟩, n1, n2, hg, hb⟩
  · rw [← hl1]; exact h1
  · rw [← hl2]; exact h2
theorem cs_cells {W : World} {g : Nat} (h : W.heap[g]? = some (Obj.cells #[.bool false, .int .i64 0] 83)) : W.cell? ⟨g, 0, Option.none⟩ = some (.bool false) ∧ W.cell? ⟨g, 1, Option.none⟩ = some (.int .i64 0) ∧ W.frozen? ⟨g, 0, Option.none⟩ = false ∧ W.frozen? ⟨g, 1, Option.none⟩ = false ∧ g < W.heap.size :=
  ⟨by simp [World.cell?, h], by simp [World.cell?, h], Lib.frozen_of_heap h 0, Lib.frozen_of_heap h 1, (Array.getElem?_eq_some_iff.1 h).1⟩
theorem pla_if {p : Pg} {v v' : Vs} {s : Xs} {c : Ins} (h : stepP p v c = .ok v') (hs : StOk p v s) : c.op = 16 → (argsX s c).getD 0 0 = 0 ∨ (argsX s c).getD 0 0 = 1 := by
  intro h16
  have hI := ins_ok h hs
  obtain ⟨-, -, -, k, hk, -⟩ := step_inv h
  have hl := hI.alen
  rw [h16] at hl
  obtain ⟨x, y, z, hx⟩ := len_three (l := argsX s c) hl
  obtain ⟨a, b, d, hd⟩ := len_three (l := v.st.drop (restN v c)) (by rw [← hI.args.1, hl]; rfl)
  have h0 := hI.args.2 0 a x (by rw [hd]; rfl) (by rw [hx]; rfl)
  rw [hx]
  refine h0.1 ?_
  rw [hd] at hk
  unfold kndP at hk
  rw [if_pos h16] at hk
  split at hk
  · rename_i hq
    exact hq.1
  · cases hk
theorem StR.mkA {W w6 : World} {p : Pg} {m : Mm} {gv gc cv cc : Nat} (hl1 : m.vals.length = p.rls.length) (hl2 : m.cells.length = p.cells.length)
    (h1 : w6.ownsRow W.heap.size 3 1 (.slice (some ⟨gv, 0, Option.none⟩) m.vals.length cv) m.vals.length (m.vals.map (Value.int .i64))) (h2 : w6.ownsRow W.heap.size 83 2 (.slice (some ⟨gc, 0, Option.none⟩) m.cells.length cc) m.cells.length (m.cells.flatMap csL))
    (hne : gv ≠ gc) (hb : Below W.heap.size W w6) : StR W p m (.pointer (some ⟨w6.heap.size, 0, Option.none⟩)) (w6.alloc (Obj.cells #[.slice (some ⟨gv, 0, Option.none⟩) m.vals.length cv, .slice (some ⟨gc, 0, Option.none⟩) m.cells.length cc] 53)) := by
  have l1 := (h1.lt gv rfl).2
  have l2 := (h2.lt gc rfl).2
  exact StR.mk' hl1 hl2 (heap_alloc_new w6 _) (h1.alloc _) (h2.alloc _) hne (by omega) (by omega) hb.size (hb.alloc hb.size _)
theorem StR.mkB {W w6 : World} {p : Pg} {m : Mm} {gm gv gc cv cc : Nat} (hl1 : m.vals.length = p.rls.length) (hl2 : m.cells.length = p.cells.length) (hm : w6.heap[gm]? = some (Obj.cells #[.slice Option.none 0 0, .slice Option.none 0 0] 53))
    (h1 : w6.ownsRow W.heap.size 3 1 (.slice (some ⟨gv, 0, Option.none⟩) m.vals.length cv) m.vals.length (m.vals.map (Value.int .i64))) (h2 : w6.ownsRow W.heap.size 83 2 (.slice (some ⟨gc, 0, Option.none⟩) m.cells.length cc) m.cells.length (m.cells.flatMap csL))
    (hne : gv ≠ gc) (n1 : gm ≠ gv) (n2 : gm ≠ gc) (hg : W.heap.size ≤ gm) (hb : Below W.heap.size W w6) : StR W p m (.pointer (some ⟨gm, 0, Option.none⟩)) ((w6.setCell ⟨gm, 0, Option.none⟩ (.slice (some ⟨gv, 0, Option.none⟩) m.vals.length cv)).setCell ⟨gm, 1, Option.none⟩ (.slice (some ⟨gc, 0, Option.none⟩) m.cells.length cc)) := by
  have hs : ∀ b, b ≠ gm → ((w6.setCell ⟨gm, 0, Option.none⟩ (.slice (some ⟨gv, 0, Option.none⟩) m.vals.length cv)).setCell ⟨gm, 1, Option.none⟩ (.slice (some ⟨gc, 0, Option.none⟩) m.cells.length cc)).heap[b]? = w6.heap[b]? := fun b q => (hp_set _ _ _ q).trans (hp_set _ _ _ q)
  exact StR.mk' hl1 hl2 (two_set_at hm _ _).2.2 (own_heap h1 fun b q _ => by have q' : some gv = some b := q; injection q' with q'; exact hs b (by omega)) (own_heap h2 fun b q _ => by have q' : some gc = some b := q; injection q' with q'; exact hs b (by omega)) hne n1 n2 hg (st_back hb hg _ _)
theorem own_second {w5 W w6 : World} {base g gs m c size : Nat} {e : TypeId} {xs : List Value} (ho : w5.ownsRow base e size (.slice (some ⟨g, 0, Option.none⟩) m c) m xs) (hb : Below w5.heap.size w5 W)
    (hk : ∀ b, b < W.heap.size → b ≠ gs → w6.heap[b]? = W.heap[b]?) (hne : g ≠ gs) : w6.ownsRow base e size (.slice (some ⟨g, 0, Option.none⟩) m c) m xs :=
  own_heap ho fun b q hl => by
    injection q with q
    subst q
    exact (hk _ (Nat.lt_of_lt_of_le hl hb.size) hne).trans (hb.block _ hl)
def RdT (W : World) (l : List (Sg × Int)) (n g : Nat) (v : Value) (wr : World) : Prop := ∃ k : Nat, k ≤ n ∧ n - k < g ∧ v = .int .i64 (k : Int) ∧ (l.drop k).all rdB = l.all rdB ∧ Below W.heap.size W wr
def ArR (W : World) (args : List Int) (v : Value) (wc : World) : Prop := ∃ A c, v = .slice A args.length c ∧ wc.ownsRow W.heap.size 3 1 (.slice A args.length c) args.length (args.map (Value.int .i64)) ∧ Below W.heap.size W wc
theorem ArR.of {W w9 : World} {args : List Int} {v9 : Value} {n : Nat} (h : w9.ownsRow W.heap.size 3 1 v9 (0 + n) ([] ++ args.map (Value.int .i64))) (hb : Below W.heap.size W w9) (hn : args.length = n) : ArR W args v9 w9 := by
  rw [Nat.zero_add, List.nil_append] at h
  subst hn
  obtain ⟨A, c, rfl, -, -⟩ := own_shape h
  exact ⟨A, c, rfl, h, hb⟩
def ClR (W : World) (r : Int × Cs) (v19 v20 : Value) (wc : World) : Prop := ∃ bx, v19 = .int .i64 r.1 ∧ v20 = .pointer (some ⟨bx, 0, Option.none⟩) ∧ bx < wc.heap.size ∧ wc.cell? ⟨bx, 0, Option.none⟩ = some (.bool r.2.on) ∧ wc.cell? ⟨bx, 1, Option.none⟩ = some (.int .i64 r.2.n) ∧ Below W.heap.size W wc
def RsL (W3 : World) (b0 gv cv gc cc : Nat) (p : Pg) (inp : List Int) (m : Int) (F : Xs) (g : Nat) (v13 v81 : Value) (wr : World) : Prop :=
  ∃ (k : Nat) (v : Vs) (s : Xs) (most : Int), k ≤ p.code.length ∧ p.code.length - k < g ∧ v81 = .int .i64 (k : Int) ∧ runG p (p.code.drop k) k v most = (0, m, 0) ∧ StOk p v s ∧ v.st.length ≤ 24 ∧
    (p.code.drop k).foldl (exP p inp) s = F ∧ wr.ownsRow W3.heap.size 3 1 v13 s.st.length (s.st.map (Value.int .i64)) ∧ MemW wr b0 gv cv gc cc p s.vals s.cells ∧ KB (fun b => b = gv ∨ b = gc ∨ W3.heap.size ≤ b) W3 wr
theorem ClR.drew {we W : World} {r : Int × Cs} {v19 v20 : Value} (h : ClR we r v19 v20 W) : ClR we r v19 v20 W.drew := by
  obtain ⟨bx, h1, h2, h3, h4, h5, h6⟩ := h
  exact ⟨bx, h1, h2, h3, h4, h5, below_drew h6⟩
theorem two_at {W : World} {g : Nat} {a b : Value} {t : TypeId} (h : W.heap[g]? = some (Obj.cells #[a, b] t (0, 0))) : W.cell? ⟨g, 0, Option.none⟩ = some a ∧ W.cell? ⟨g, 1, Option.none⟩ = some b :=
  ⟨by simp [World.cell?, h], by simp [World.cell?, h]⟩
theorem cl_A {we w12 : World} {r : Int × Cs} (hb : Below we.heap.size we w12) : ClR we r (.int .i64 r.1) (.pointer (some ⟨w12.heap.size, 0, Option.none⟩)) (w12.alloc (Obj.cells #[.bool r.2.on, .int .i64 r.2.n] 83)) := by
  have h := heap_alloc_new w12 (Obj.cells #[.bool r.2.on, .int .i64 r.2.n] 83)
  exact ⟨_, rfl, rfl, by rw [World.size_alloc]; omega, (two_at h).1, (two_at h).2, hb.alloc hb.size _⟩
theorem cl_B {we w12 : World} {r : Int × Cs} (hb : Below we.heap.size we w12) (hm : w12.heap[we.heap.size]? = some (Obj.cells #[.bool false, .int .i64 0] 83)) :
    ClR we r (.int .i64 r.1) (.pointer (some ⟨we.heap.size, 0, Option.none⟩)) ((w12.setCell ⟨we.heap.size, 0, Option.none⟩ (.bool r.2.on)).setCell ⟨we.heap.size, 1, Option.none⟩ (.int .i64 r.2.n)) := by
  have hl := (Array.getElem?_eq_some_iff.1 hm).1
  obtain ⟨h0, h1, -⟩ := two_set_at hm (.bool r.2.on) (.int .i64 r.2.n)
  exact ⟨_, rfl, rfl, by simp only [World.size_setCell]; exact hl, h0, h1, st_back hb (Nat.le_refl _) _ _⟩
theorem src_top {w : World} {S : Nat → Prop} {A : Option Addr} {n r : Nat} {l : List Int} (h : Rw IaC 1 w S A n l) (hr : r ≤ n) : Src w 1 (Option.map (fun x => x.add r) A) (n - r) ((l.drop r).map (Value.int .i64)) := by
  refine ⟨by rw [List.length_map, List.length_drop, h.1]; omega, fun hn => ?_⟩
  obtain ⟨b, o, e, -, hr'⟩ := h.2 (by omega)
  subst e
  refine ⟨⟨b, o + r, Option.none⟩, by simp [Addr.add], fun j u hu => ?_⟩
  rw [List.getElem?_map, List.getElem?_drop] at hu
  obtain ⟨s, hs, rfl⟩ := Option.map_eq_some_iff.1 hu
  obtain ⟨cs, hl, rfl, hat⟩ := hr' _ s hs
  have h0 := hat 0 _ rfl
  rw [Addr.add_mid, show o + r + j = o + (r + j) * 1 + 0 by omega]
  exact h0
theorem src_top0 {w : World} {A : Option Addr} {n r : Nat} {l : List Int} (h : l.length = n) (h0 : n - r = 0) : Src w 1 A (n - r) ((l.drop r).map (Value.int .i64)) :=
  ⟨by rw [List.length_map, List.length_drop, h]; omega, fun hn => by omega⟩
theorem csL_one (l : List Cs) : ∀ u ∈ l.flatMap csL, u.oneCell' = true := by
  intro u hu
  obtain ⟨z, -, hz⟩ := List.mem_flatMap.1 hu
  simp only [csL, List.mem_cons, List.not_mem_nil, or_false] at hz
  rcases hz with rfl | rfl <;> rfl
theorem cs_src7 {w : World} {S : Nat → Prop} {A : Option Addr} {n : Nat} {l : List Cs} (h : Rw CsC 2 w S A n l) : Src w 2 A n (l.flatMap csL) :=
  ⟨by rw [csL_len, h.1], fun hn => cs_src h hn⟩

set_option maxRecDepth 100000 in
set_option maxHeartbeats 8000000 in
theorem rStep_any {w : World} {p : Pg} {l : Pl} {m : Mm} {ml : Ml} {Ai : Option Addr} {ci : Nat} {inp : List Int} (hpg : PgI w (Old w) p l) (hm : MmI w (Old w) m ml) (hi : Rw IaC 1 w (Old w) Ai inp.length inp) (hci : inp.length ≤ ci) (hcm : ci ≤ maxLen) :
    Calls Tryz.prog 14 #[pgV p l, mmV m ml, .slice Ai inp.length ci] w (RetStp p m inp w) := by
  obtain ⟨B1, k1, B2, k2, B3, k3, B4, k4⟩ := l
  obtain ⟨D1, d1, D2, d2⟩ := ml
  have pm1 := hpg.m1
  have ph1 := hpg.h1
  have pm2 := hpg.m2
  have ph2 := hpg.h2
  have pm3 := hpg.m3
  have ph3 := hpg.h3
  have pm4 := hpg.m4
  have ph4 := hpg.h4
  have mm1 := hm.m1
  have mh1 := hm.h1
  have mm2 := hm.m2
  have mh2 := hm.h2
  dsimp only at pm1 ph1 pm2 ph2 pm3 ph3 pm4 ph4 mm1 mh1 mm2 mh2
  unfold maxLen at pm1 pm2 pm3 pm4 mm1 mm2 hcm
  have hb1 := box_below w (Obj.cells (pgC p ⟨B1, k1, B2, k2, B3, k3, B4, k4⟩) 35)
  have hb2 := box_below (w.alloc (Obj.cells (pgC p ⟨B1, k1, B2, k2, B3, k3, B4, k4⟩) 35)) (Obj.cells (mmC m ⟨D1, d1, D2, d2⟩) 53)
  have hb3 := box_below ((w.alloc (Obj.cells (pgC p ⟨B1, k1, B2, k2, B3, k3, B4, k4⟩) 35)).alloc (Obj.cells (mmC m ⟨D1, d1, D2, d2⟩) 53)) (Obj.cells #[.slice Option.none 0 0, .slice Option.none 0 0] 53)
  have hb0 := below_two (below_two hb1 hb2 hb1.size) hb3 (below_two hb1 hb2 hb1.size).size
  have hsb := three_boxes w p ⟨B1, k1, B2, k2, B3, k3, B4, k4⟩ m ⟨D1, d1, D2, d2⟩
  obtain ⟨va, vm, ve, hvp⟩ : ∃ a b c, verP p = (a, b, c) := ⟨_, _, _, rfl⟩
  have HC := Lib.hid (rVerify_at (hpg.below hb0) hvp)
  have HVP := Lib.hid hvp
  have HPG := Lib.hid hpg
  have HMM := Lib.hid hm
  have HI := Lib.hid hi
  have HB := Lib.hid hb0
  have HSB := Lib.hid hsb
  have HSC := Lib.hid (show scanS p m inp = if (verP p).2.2 ≠ 0 ∨ readB p inp = false then (mmNil, 1) else if fitsB p m = false then (mmNil, 20) else (scanP p m inp, 0) from rfl)
  have HRE := Lib.hid (show readB p inp = (decide (inp.length = p.ins.length) && (p.ins.zip inp).all rdB) from rfl)
  clear hb1 hb2 hb3 hb0 hvp hpg hm hi hsb
  go_enter Tryz.func14, Tryz.ntmps14
  go_wp2_with fail
  refine HC.out.mono ?_
  rintro e w1 ⟨rfl, hb3⟩
  generalize ((w.alloc (Obj.cells (pgC p ⟨B1, k1, B2, k2, B3, k3, B4, k4⟩) 35)).alloc (Obj.cells (mmC m ⟨D1, d1, D2, d2⟩) 53)).alloc (Obj.cells #[.slice Option.none 0 0, .slice Option.none 0 0] 53) = W2 at *
  have hsb := HSB.out.below hb3
  obtain ⟨q0, q1, q2, q3, t0, t1, r0, r1, f0, f1⟩ := hsb.cells
  have hbw := below_two HB.out hb3 HB.out.size
  have HBW := Lib.hid hbw
  have hl2 := hsb.lt
  have hl1 : w.heap.size + 1 < w1.heap.size := by omega
  have hl0 : w.heap.size < w1.heap.size := by omega
  have HSB1 := Lib.hid hsb
  have HSET := Lib.hid (st_back (n := w.heap.size + 2) hbw (by omega) (.slice Option.none 0 0) (.slice Option.none 0 0))
  clear hb3 hsb
  by_cases hve : ve = 0
  case neg =>
    have hvb : (ve != 0) = true := by simpa using hve
    have HE := Lib.hid (show scanS p m inp = (mmNil, 1) by rw [HSC.out, if_pos (.inl (by rw [HVP.out]; exact hve))])
    clear hve hbw
    go_wp2
    refine bodyPost_ret (v := .tuple #[.agg #[.slice Option.none 0 0, .slice Option.none 0 0], .int .i64 1]) ?_ rfl ?_
    · simp [results, Tryz.results14, go_sem, r0, r1]
    · exact RetStp.none HE.out HSET.out
  subst hve
  have HV0 := Lib.hid (show (verP p).2.2 = 0 by rw [HVP.out])
  by_cases hil : inp.length = p.ins.length
  case neg =>
    have hne : ((inp.length : Int) != (p.ins.length : Int)) = true := by simp; omega
    have HE := Lib.hid (show scanS p m inp = (mmNil, 1) by rw [HSC.out, if_pos (.inr (by rw [HRE.out, decide_eq_false hil]; rfl))])
    clear hil hbw
    go_wp2
    refine bodyPost_ret (v := .tuple #[.agg #[.slice Option.none 0 0, .slice Option.none 0 0], .int .i64 1]) ?_ rfl ?_
    · simp [results, Tryz.results14, go_sem, r0, r1]
    · exact RetStp.none HE.out HSET.out
  have hne : ((inp.length : Int) != (p.ins.length : Int)) = false := by simp; omega
  have HRB := Lib.hid (show readB p inp = (p.ins.zip inp).all rdB by rw [HRE.out, decide_eq_true hil]; rfl)
  have HZL := Lib.hid (show (p.ins.zip inp).length = p.ins.length by rw [List.length_zip]; omega)
  have HIL := Lib.hid hil
  have hle : p.ins.length ≤ inp.length := by omega
  have HR1 := Lib.hid (HPG.out.r1.mono SgC.mono (S' := Old w1) (fun b q => Nat.lt_of_lt_of_le q hbw.size) (keepOn_below hbw fun _ q => q))
  have HRI := Lib.hid (HI.out.mono IaC.mono (S' := Old w1) (fun b q => Nat.lt_of_lt_of_le q hbw.size) (keepOn_below hbw fun _ q => q))
  clear hil hbw
  go_wp2
  clear hne
  go_loopg [40] (p.ins.length + 1) (fun g v wr => RdT w1 (p.ins.zip inp) p.ins.length g v wr)
  case atStart => exact ⟨0, Nat.zero_le _, by omega, rfl, by rw [List.drop_zero], Below.refl _ _⟩
  case round =>
    obtain ⟨k, hk, hgk, rfl, hall, hbr⟩ := hrel
    have hsr := hbr.size
    have HBR := Lib.hid hbr
    have hsb := HSB1.out.below hbr
    have hbw := below_two HBW.out hbr HBW.out.size
    clear q0 q1 q2 q3 t0 t1 r0 r1 f0 f1 hl2 hl1 hl0 HSET
    by_cases hlt : k < p.ins.length
    case pos =>
      obtain ⟨b, o, s, hA, hSb, hx, -, -, y0, y1⟩ := sgAt (HR1.out.mono SgC.mono (S' := Old wr) (fun b q => Nat.lt_of_lt_of_le q hbr.size) (keepOn_below hbr fun _ q => q)) hlt
      obtain ⟨b', o', z, hA', hSb', hz, u0⟩ := iaAt (HRI.out.mono IaC.mono (S' := Old wr) (fun b q => Nat.lt_of_lt_of_le q hbr.size) (keepOn_below hbr fun _ q => q)) (show k < inp.length by omega)
      have hA2 : B1 = some ⟨b, o, Option.none⟩ := hA
      subst hA2
      subst hA'
      have hzk : (p.ins.zip inp)[k]? = some (s, z) := by rw [List.getElem?_zip_eq_some]; exact ⟨hx, hz⟩
      have hget : (p.ins.zip inp)[k]'(by rw [HZL.out]; exact hlt) = (s, z) := by
        rw [List.getElem?_eq_getElem (by rw [HZL.out]; exact hlt)] at hzk
        injection hzk
      rw [List.drop_eq_getElem_cons (by rw [HZL.out]; exact hlt), hget, List.all_cons] at hall
      obtain ⟨nm, kd⟩ := s
      dsimp only at y0 y1
      have hrd : rdB (⟨nm, kd⟩, z) = (!decide (kd = 1) || decide (z = 0 ∨ z = 1)) := rfl
      rw [hrd] at hall
      have HAL := Lib.hid hall
      have hkI : (k : Int) < (p.ins.length : Int) := by omega
      have hkJ : (k : Int) < (inp.length : Int) := by omega
      have hbk : b < wr.heap.size := hSb
      have hbk' : b' < wr.heap.size := hSb'
      have hbx := box_below wr (Obj.cells #[.string ⟨nm.toArray⟩, .int .i64 kd] 40)
      have HBX := Lib.hid (below_two hbr hbx hbr.size)
      obtain ⟨-, -, -, -, -, -, r0, r1, f0, f1⟩ := hsb.cells
      have hsb0 := st_back (n := w.heap.size + 2) hbw (by omega) (.slice Option.none 0 0) (.slice Option.none 0 0)
      have HSET := Lib.hid (hsb0.alloc hsb0.size (Obj.cells #[.string ⟨nm.toArray⟩, .int .i64 kd] 40))
      have hl2 := hsb.lt
      clear hsb0 hall hx hz hzk hget hrd hSb hSb' hbr hbx hsb hbw
      rcases (show kd ≠ 1 ∨ (kd = 1 ∧ z = 0) ∨ (kd = 1 ∧ z = 1) ∨ (kd = 1 ∧ z ≠ 0 ∧ z ≠ 1) by omega) with e | ⟨rfl, rfl⟩ | ⟨rfl, rfl⟩ | ⟨rfl, e0, e1⟩
      case inr.inr.inr =>
        have HE := Lib.hid (show scanS p m inp = (mmNil, 1) by rw [HSC.out, if_pos (.inr (by rw [HRB.out, ← HAL.out]; simp [e0, e1]))])
        have f0' : (z != 0) = true := by simpa using e0
        have f1' : (z != 1) = true := by simpa using e1
        clear e0 e1 HAL
        go_wp2
        refine bodyPost_ret (v := .tuple #[.agg #[.slice Option.none 0 0, .slice Option.none 0 0], .int .i64 1]) ?_ rfl ?_
        · simp [results, Tryz.results14, go_sem, r0, r1, hl2]
        · exact RetStp.none HE.out HSET.out
      all_goals
        have HE := Lib.hid (show ((p.ins.zip inp).drop (k + 1)).all rdB = (p.ins.zip inp).all rdB by rw [← HAL.out]; simp [*])
        clear HAL
        try
          have hkb : (kd == 1) = false := by simpa using e
          clear e
        go_wp2
        go_roundg (p.ins.length - k)
        case measure => omega
        case rel => exact ⟨k + 1, by omega, by omega, by go_num, HE.out, HBX.out⟩
    obtain rfl : k = p.ins.length := by omega
    rw [List.drop_eq_nil_of_le (by rw [HZL.out]; exact Nat.le_refl _)] at hall
    have HRT := Lib.hid (show readB p inp = true by rw [HRB.out, ← hall]; rfl)
    have HFI := Lib.hid (rFits_any (HPG.out.below hbw) (HMM.out.below hbw))
    obtain ⟨fb, hfb⟩ : ∃ fb, fitsB p m = fb := ⟨_, rfl⟩
    have HFB := Lib.hid hfb
    rw [HV0.out, decide_eq_true rfl, Bool.true_and, hfb] at HFI
    obtain ⟨q0, q1, q2, q3, t0, t1, r0, r1, f0, f1⟩ := hsb.cells
    have hl2 := hsb.lt
    have hl1 : w.heap.size + 1 < wr.heap.size := by omega
    have hl0 : w.heap.size < wr.heap.size := by omega
    have HSBr := Lib.hid hsb
    have HBWr := Lib.hid hbw
    clear hall hlt hsb hbw hbr hfb HR1 HRI HRE HRB
    go_wp2_with fail
    refine HFI.out.mono ?_
    rintro e w4 ⟨rfl, hb3⟩
    have hsb := HSBr.out.below hb3
    have hbw := below_two HBWr.out hb3 HBWr.out.size
    clear q0 q1 q2 q3 t0 t1 r0 r1 f0 f1 hl0 hl1 hl2 HFI
    obtain ⟨q0, q1, q2, q3, t0, t1, r0, r1, f0, f1⟩ := hsb.cells
    have HBW4 := Lib.hid hbw
    have hl2 := hsb.lt
    have hl1 : w.heap.size + 1 < w4.heap.size := by omega
    have hl0 : w.heap.size < w4.heap.size := by omega
    have HSB4 := Lib.hid hsb
    clear hb3 hsb
    cases fb with
    | false =>
      have HE := Lib.hid (show scanS p m inp = (mmNil, 20) by rw [HSC.out, if_neg (by rw [HV0.out, HRT.out]; simp), if_pos HFB.out])
      have HSET := Lib.hid (st_back (n := w.heap.size + 2) hbw (by omega) (.slice Option.none 0 0) (.slice Option.none 0 0))
      clear hbw
      go_wp2
      refine bodyPost_ret (v := .tuple #[.agg #[.slice Option.none 0 0, .slice Option.none 0 0], .int .i64 20]) ?_ rfl ?_
      · simp [results, Tryz.results14, go_sem, r0, r1]
      · exact RetStp.none HE.out HSET.out
    | true =>
    have HE := Lib.hid (show scanS p m inp = (scanP p m inp, 0) by rw [HSC.out, if_neg (by rw [HV0.out, HRT.out]; simp), if_neg (by rw [HFB.out]; decide)])
    have HMO := Lib.hid (fits_iff.1 HFB.out)
    obtain ⟨-, hr16, hc64, -⟩ := ver_small HV0.out
    have HVL : Hid (m.vals.length = p.rls.length) := Lib.hid HMO.out.vl
    have HCL : Hid (m.cells.length = p.cells.length) := Lib.hid HMO.out.cl
    have hv16 : m.vals.length ≤ 16 := by rw [HVL.out]; exact hr16
    have hc64' : m.cells.length ≤ 64 := by rw [HCL.out]; exact hc64
    obtain ⟨ti, hti, hz0, hz1, hz2⟩ := info_parts infoNt
    obtain ⟨tc, htc, hy0, hy1, hy2⟩ := info_parts infoCs
    have hmi := HMM.out.below hbw
    have HS1 := Lib.hid (ia_src7 hmi.r1)
    have HS2 := Lib.hid (cs_src7 hmi.r2)
    have HCT := Lib.hid (fun (W : World) (h : Below w4.heap.size w4 W) => And.intro ((HSB4.out.below h).cells.2.2.2.2.1) ((HSB4.out.below h).cells.2.2.2.2.2.1))
    have hmx1 : m.vals.length ≤ maxLen := by unfold maxLen; omega
    have hmx2 : m.cells.length ≤ maxLen := by unfold maxLen; omega
    have hmb1 : m.vals.length * 8 ≤ 140737488355328 := by omega
    have hmb2 : m.cells.length * 16 ≤ 140737488355328 := by omega
    have HTI := Lib.hid (And.intro hti (And.intro hz0 (And.intro hz1 hz2)))
    have HTC := Lib.hid (And.intro htc (And.intro hy0 (And.intro hy1 hy2)))
    clear hbw hmi hti hz0 hz1 hz2 htc hy0 hy1 hy2
    go_upto_region 12 with fail
    go_cut [12] (fun v12 wc => StR w4 p m v12 wc)
    case first =>
      as_aux_lemma =>
        go_region_held3 (fun w' => w'.cell? ⟨w.heap.size + 1, 0, Option.none⟩ = some (.slice D1 m.vals.length d1) ∧ w'.cell? ⟨w.heap.size + 1, 1, Option.none⟩ = some (.slice D2 m.cells.length d2)) (first | exact ⟨t0, t1⟩ | exact HCT.out _ ((hb6).alloc (hb6).size _) | exact HCT.out _ (st_back hb6 (by omega) _ _) | exact HCT.out _ ((hb5).alloc (hb5).size _) | exact HCT.out _ ((((hb5).alloc (hb5).size _)).alloc (((hb5).alloc (hb5).size _)).size _) | exact HCT.out _ (below_drew (((Below.refl w4.heap.size w4)).alloc ((Below.refl w4.heap.size w4)).size _)) | exact HCT.out _ (below_drew (((((Below.refl w4.heap.size w4)).alloc ((Below.refl w4.heap.size w4)).size _)).alloc ((((Below.refl w4.heap.size w4)).alloc ((Below.refl w4.heap.size w4)).size _)).size _)) | exact HCT.out _ (below_drew (((((((Below.refl w4.heap.size w4)).alloc ((Below.refl w4.heap.size w4)).size _)).alloc ((((Below.refl w4.heap.size w4)).alloc ((Below.refl w4.heap.size w4)).size _)).size _)).alloc ((((((Below.refl w4.heap.size w4)).alloc ((Below.refl w4.heap.size w4)).size _)).alloc ((((Below.refl w4.heap.size w4)).alloc ((Below.refl w4.heap.size w4)).size _)).size _)).size _)))
          (first
           | (first | ((refine step_append_fresh (W0 := w4) (o := ⟨some 72, _, _, _, _, _⟩) _ _ 38 rfl rfl Tryz.underlying38 HTI.out.1 HTI.out.2.1 HTI.out.2.2.1 HTI.out.2.2.2 rfl (by decide) (by rfl) (by rfl) HS1.out (int_one _) hmx1 hmb1 (by (first | exact hb5 | exact (hb5).alloc (hb5).size _ | exact ((hb5).alloc (hb5).size _).alloc ((hb5).alloc (hb5).size _).size _)) (by omega) (by ((try simp only [hpz]); (repeat (first | rw [if_pos (by omega)] | rw [if_neg (by omega)])); (try (rw [hk5 _ (by (try simp only [hpz]); omega) (by omega)]; (try simp only [hpz]); (repeat (first | rw [if_pos (by omega)] | rw [if_neg (by omega)])))); (first | done | fail))) ?_; intro g7 c7 w6 ho7 hb6 hk6 hs6 hq7; have hz6 := hb6.size; have hl6 : w.heap.size + 1 < w6.heap.size := (by omega); (try simp only [hpz] at hs6); (try simp only [hpz] at hq7); obtain ⟨t0, t1⟩ := HCT.out _ hb6; (first | (have hgm6 : w6.heap[w4.heap.size]? = some (Obj.cells #[.slice Option.none 0 0, .slice Option.none 0 0] 53) := (by (rw [hk6 _ (by (try simp only [hpz]); omega) (by omega)]; (try simp only [hpz]); (repeat (first | rw [if_pos (by omega)] | rw [if_neg (by omega)])); (try (rw [hk5 _ (by (try simp only [hpz]); omega) (by omega)]; (try simp only [hpz]); (repeat (first | rw [if_pos (by omega)] | rw [if_neg (by omega)])))); (first | done | fail))); obtain ⟨c0, c1, c2, c3, c4⟩ := nil_cells hgm6) | (have hgm6 : w6.heap[w4.heap.size + 1]? = some (Obj.cells #[.slice Option.none 0 0, .slice Option.none 0 0] 53) := (by (rw [hk6 _ (by (try simp only [hpz]); omega) (by omega)]; (try simp only [hpz]); (repeat (first | rw [if_pos (by omega)] | rw [if_neg (by omega)])); (try (rw [hk5 _ (by (try simp only [hpz]); omega) (by omega)]; (try simp only [hpz]); (repeat (first | rw [if_pos (by omega)] | rw [if_neg (by omega)])))); (first | done | fail))); obtain ⟨c0, c1, c2, c3, c4⟩ := nil_cells hgm6) | (have hgm6 : w6.heap[w4.heap.size + 1 + 1]? = some (Obj.cells #[.slice Option.none 0 0, .slice Option.none 0 0] 53) := (by (rw [hk6 _ (by (try simp only [hpz]); omega) (by omega)]; (try simp only [hpz]); (repeat (first | rw [if_pos (by omega)] | rw [if_neg (by omega)])); (try (rw [hk5 _ (by (try simp only [hpz]); omega) (by omega)]; (try simp only [hpz]); (repeat (first | rw [if_pos (by omega)] | rw [if_neg (by omega)])))); (first | done | fail))); obtain ⟨c0, c1, c2, c3, c4⟩ := nil_cells hgm6) | (have hgm6 : w6.heap[w5.heap.size]? = some (Obj.cells #[.slice Option.none 0 0, .slice Option.none 0 0] 53) := (by (rw [hk6 _ (by (try simp only [hpz]); omega) (by omega)]; (try simp only [hpz]); (repeat (first | rw [if_pos (by omega)] | rw [if_neg (by omega)])); (try (rw [hk5 _ (by (try simp only [hpz]); omega) (by omega)]; (try simp only [hpz]); (repeat (first | rw [if_pos (by omega)] | rw [if_neg (by omega)])))); (first | done | fail))); obtain ⟨c0, c1, c2, c3, c4⟩ := nil_cells hgm6) | (have hgm6 : w6.heap[w5.heap.size + 1]? = some (Obj.cells #[.slice Option.none 0 0, .slice Option.none 0 0] 53) := (by (rw [hk6 _ (by (try simp only [hpz]); omega) (by omega)]; (try simp only [hpz]); (repeat (first | rw [if_pos (by omega)] | rw [if_neg (by omega)])); (try (rw [hk5 _ (by (try simp only [hpz]); omega) (by omega)]; (try simp only [hpz]); (repeat (first | rw [if_pos (by omega)] | rw [if_neg (by omega)])))); (first | done | fail))); obtain ⟨c0, c1, c2, c3, c4⟩ := nil_cells hgm6) | skip))) | fail)
           | (first | ((refine step_append_fresh (W0 := w4) (o := ⟨some 76, _, _, _, _, _⟩) _ _ 43 rfl rfl Tryz.underlying43 HTC.out.1 HTC.out.2.1 HTC.out.2.2.1 HTC.out.2.2.2 rfl (by decide) (by rfl) (by rfl) HS2.out (csL_one _) hmx2 hmb2 (by (first | exact hb5 | exact (hb5).alloc (hb5).size _ | exact ((hb5).alloc (hb5).size _).alloc ((hb5).alloc (hb5).size _).size _)) (by omega) (by ((try simp only [hpz]); (repeat (first | rw [if_pos (by omega)] | rw [if_neg (by omega)])); (try (rw [hk5 _ (by (try simp only [hpz]); omega) (by omega)]; (try simp only [hpz]); (repeat (first | rw [if_pos (by omega)] | rw [if_neg (by omega)])))); (first | done | fail))) ?_; intro g8 c8 w6 ho8 hb6 hk6 hs6 hq8; have hz6 := hb6.size; have hl6 : w.heap.size + 1 < w6.heap.size := (by omega); (try simp only [hpz] at hs6); (try simp only [hpz] at hq8); obtain ⟨t0, t1⟩ := HCT.out _ hb6; (first | (have hgm6 : w6.heap[w4.heap.size]? = some (Obj.cells #[.slice Option.none 0 0, .slice Option.none 0 0] 53) := (by (rw [hk6 _ (by (try simp only [hpz]); omega) (by omega)]; (try simp only [hpz]); (repeat (first | rw [if_pos (by omega)] | rw [if_neg (by omega)])); (try (rw [hk5 _ (by (try simp only [hpz]); omega) (by omega)]; (try simp only [hpz]); (repeat (first | rw [if_pos (by omega)] | rw [if_neg (by omega)])))); (first | done | fail))); obtain ⟨c0, c1, c2, c3, c4⟩ := nil_cells hgm6) | (have hgm6 : w6.heap[w4.heap.size + 1]? = some (Obj.cells #[.slice Option.none 0 0, .slice Option.none 0 0] 53) := (by (rw [hk6 _ (by (try simp only [hpz]); omega) (by omega)]; (try simp only [hpz]); (repeat (first | rw [if_pos (by omega)] | rw [if_neg (by omega)])); (try (rw [hk5 _ (by (try simp only [hpz]); omega) (by omega)]; (try simp only [hpz]); (repeat (first | rw [if_pos (by omega)] | rw [if_neg (by omega)])))); (first | done | fail))); obtain ⟨c0, c1, c2, c3, c4⟩ := nil_cells hgm6) | (have hgm6 : w6.heap[w4.heap.size + 1 + 1]? = some (Obj.cells #[.slice Option.none 0 0, .slice Option.none 0 0] 53) := (by (rw [hk6 _ (by (try simp only [hpz]); omega) (by omega)]; (try simp only [hpz]); (repeat (first | rw [if_pos (by omega)] | rw [if_neg (by omega)])); (try (rw [hk5 _ (by (try simp only [hpz]); omega) (by omega)]; (try simp only [hpz]); (repeat (first | rw [if_pos (by omega)] | rw [if_neg (by omega)])))); (first | done | fail))); obtain ⟨c0, c1, c2, c3, c4⟩ := nil_cells hgm6) | (have hgm6 : w6.heap[w5.heap.size]? = some (Obj.cells #[.slice Option.none 0 0, .slice Option.none 0 0] 53) := (by (rw [hk6 _ (by (try simp only [hpz]); omega) (by omega)]; (try simp only [hpz]); (repeat (first | rw [if_pos (by omega)] | rw [if_neg (by omega)])); (try (rw [hk5 _ (by (try simp only [hpz]); omega) (by omega)]; (try simp only [hpz]); (repeat (first | rw [if_pos (by omega)] | rw [if_neg (by omega)])))); (first | done | fail))); obtain ⟨c0, c1, c2, c3, c4⟩ := nil_cells hgm6) | (have hgm6 : w6.heap[w5.heap.size + 1]? = some (Obj.cells #[.slice Option.none 0 0, .slice Option.none 0 0] 53) := (by (rw [hk6 _ (by (try simp only [hpz]); omega) (by omega)]; (try simp only [hpz]); (repeat (first | rw [if_pos (by omega)] | rw [if_neg (by omega)])); (try (rw [hk5 _ (by (try simp only [hpz]); omega) (by omega)]; (try simp only [hpz]); (repeat (first | rw [if_pos (by omega)] | rw [if_neg (by omega)])))); (first | done | fail))); obtain ⟨c0, c1, c2, c3, c4⟩ := nil_cells hgm6) | skip))) | fail)
           | (first | ((refine step_append_fresh (W0 := w4) (o := ⟨some 72, _, _, _, _, _⟩) _ _ 38 rfl rfl Tryz.underlying38 HTI.out.1 HTI.out.2.1 HTI.out.2.2.1 HTI.out.2.2.2 rfl (by decide) (by rfl) (by rfl) HS1.out (int_one _) hmx1 hmb1 (by (first | exact below_drew ((Below.refl w4.heap.size w4).alloc (Below.refl w4.heap.size w4).size _) | exact below_drew (((Below.refl w4.heap.size w4).alloc (Below.refl w4.heap.size w4).size _).alloc ((Below.refl w4.heap.size w4).alloc (Below.refl w4.heap.size w4).size _).size _) | exact below_drew ((((Below.refl w4.heap.size w4).alloc (Below.refl w4.heap.size w4).size _).alloc ((Below.refl w4.heap.size w4).alloc (Below.refl w4.heap.size w4).size _).size _).alloc (((Below.refl w4.heap.size w4).alloc (Below.refl w4.heap.size w4).size _).alloc ((Below.refl w4.heap.size w4).alloc (Below.refl w4.heap.size w4).size _).size _).size _))) (by omega) (by ((try simp only [hpz]); (repeat (first | rw [if_pos (by omega)] | rw [if_neg (by omega)])); (first | done | fail))) ?_; intro g7 c7 w5 ho7 hb5 hk5 hs5 hq7; have hz5 := hb5.size; have hl5 : w.heap.size + 1 < w5.heap.size := (by omega); (try simp only [hpz] at hs5); (try simp only [hpz] at hq7); obtain ⟨t0, t1⟩ := HCT.out _ hb5)) | fail)
           | (first | ((refine step_append_fresh (W0 := w4) (o := ⟨some 76, _, _, _, _, _⟩) _ _ 43 rfl rfl Tryz.underlying43 HTC.out.1 HTC.out.2.1 HTC.out.2.2.1 HTC.out.2.2.2 rfl (by decide) (by rfl) (by rfl) HS2.out (csL_one _) hmx2 hmb2 (by (first | exact below_drew ((Below.refl w4.heap.size w4).alloc (Below.refl w4.heap.size w4).size _) | exact below_drew (((Below.refl w4.heap.size w4).alloc (Below.refl w4.heap.size w4).size _).alloc ((Below.refl w4.heap.size w4).alloc (Below.refl w4.heap.size w4).size _).size _) | exact below_drew ((((Below.refl w4.heap.size w4).alloc (Below.refl w4.heap.size w4).size _).alloc ((Below.refl w4.heap.size w4).alloc (Below.refl w4.heap.size w4).size _).size _).alloc (((Below.refl w4.heap.size w4).alloc (Below.refl w4.heap.size w4).size _).alloc ((Below.refl w4.heap.size w4).alloc (Below.refl w4.heap.size w4).size _).size _).size _))) (by omega) (by ((try simp only [hpz]); (repeat (first | rw [if_pos (by omega)] | rw [if_neg (by omega)])); (first | done | fail))) ?_; intro g8 c8 w5 ho8 hb5 hk5 hs5 hq8; have hz5 := hb5.size; have hl5 : w.heap.size + 1 < w5.heap.size := (by omega); (try simp only [hpz] at hs5); (try simp only [hpz] at hq8); obtain ⟨t0, t1⟩ := HCT.out _ hb5)) | fail))
        all_goals
          go_wp2
          go_meet
          first
            | (have l7 := (ho7.lt g7 rfl).2; have r7 := own_second ho7 (Below.refl w5.heap.size w5) hk6 (by omega); have r8 := ho8)
            | (have l7 := (ho7.lt g7 rfl).2; have r7 := own_second ho7 (((Below.refl w5.heap.size w5)).alloc ((Below.refl w5.heap.size w5)).size _) hk6 (by omega); have r8 := ho8)
            | (have l7 := (ho7.lt g7 rfl).2; have r7 := own_second ho7 (((((Below.refl w5.heap.size w5)).alloc ((Below.refl w5.heap.size w5)).size _)).alloc ((((Below.refl w5.heap.size w5)).alloc ((Below.refl w5.heap.size w5)).size _)).size _) hk6 (by omega); have r8 := ho8)
          have l7 := (r7.lt g7 rfl).2
          have l8 := (r8.lt g8 rfl).2
          first
            | exact StR.mkA HVL.out HCL.out r7 r8 (by omega) hb6
            | exact StR.mkB HVL.out HCL.out hgm6 r7 r8 (by omega) (by omega) (by omega) (by omega) hb6
    case rest =>
    rename World => wc
    obtain ⟨gm, gv, gc, cv, cc, rfl, hgm, hmm, n1, n2, hge, hb6⟩ := hcut
    have HGM := hgm
    have hbw := below_two HBW4.out hb6 HBW4.out.size
    have hsb := HSB4.out.below hb6
    clear q0 q1 q2 q3 t0 t1 r0 r1 f0 f1 hl0 hl1 hl2 hgm HS1 HS2 HCT HTC hmx1 hmx2 hmb1 hmb2 hv16 hc64'
    have q3 := hsb.cells.2.2.2.1
    have hsz4 := HSB4.out.lt
    have hl2 := hsb.lt
    have hl0 : w.heap.size < wc.heap.size := by omega
    have hgml : gm < wc.heap.size := (Array.getElem?_eq_some_iff.1 HGM.out).1
    have hgvl := hmm.va.lt
    have hgcl := hmm.ce.lt
    have hgv4 : w4.heap.size ≤ gv := (hmm.va.row.lt gv rfl).1
    have hgc4 : w4.heap.size ≤ gc := (hmm.ce.row.lt gc rfl).1
    obtain ⟨most, hrun⟩ := ver_run HV0.out
    obtain ⟨Fx, hF⟩ : ∃ F, p.code.foldl (exP p inp) ⟨[], m.vals, m.cells⟩ = F := ⟨_, rfl⟩
    have HSP := Lib.hid (show scanP p m inp = ⟨Fx.vals, Fx.cells⟩ by unfold scanP; rw [hF])
    have HIO := Lib.hid (read_inp HRT.out)
    have HF := Lib.hid hF
    have HRUN := Lib.hid hrun
    have HBWc := Lib.hid hbw
    have HSBc := Lib.hid hsb
    have HMM2 := Lib.hid hmm
    have HKO := Lib.hid (fun (W : World) (h : KB (fun b => b = gv ∨ b = gc ∨ wc.heap.size ≤ b) wc W) => show KeepOn (Old w) w W from fun b hb => by
      have hb' : b < w.heap.size := hb
      exact (h.block b (by omega) (by omega)).trans (HBWc.out.block b hb'))
    have HBX := Lib.hid (fun (W : World) (h : KB (fun b => b = gv ∨ b = gc ∨ wc.heap.size ≤ b) wc W) => show W.heap[gm]? = some (.cells #[.slice (some ⟨gv, 0, Option.none⟩) m.vals.length cv, .slice (some ⟨gc, 0, Option.none⟩) m.cells.length cc] 53 (0, 0)) ∧ W.heap[w.heap.size]? = some (.cells (pgC p ⟨B1, k1, B2, k2, B3, k3, B4, k4⟩) 35 (0, 0)) ∧ W.heap[w.heap.size + 2]? = some (.cells #[.slice Option.none 0 0, .slice Option.none 0 0] 53 (0, 0)) from
      ⟨(h.block gm hgml (by omega)).trans HGM.out, (h.block w.heap.size hl0 (by omega)).trans HSBc.out.b0, (h.block (w.heap.size + 2) hl2 (by omega)).trans HSBc.out.b2⟩)
    clear hbw hsb hmm hb6 hrun hF
    have hro := ver_small HV0.out
    have hc600 : p.code.length ≤ 600 := hro.2.2.2
    clear hro
    go_wp2
    clear q3
    go_loopg [13, 81] (p.code.length + 1) (fun g v13 v81 wr => RsL wc w4.heap.size gv cv gc cc p inp most Fx g v13 v81 wr)
    case atStart => exact ⟨0, ⟨[], 0, 0⟩, ⟨[], m.vals, m.cells⟩, 0, Nat.zero_le _, by omega, rfl, by rw [List.drop_zero]; exact HRUN.out, HMO.out, by decide, by rw [List.drop_zero]; exact HF.out, World.ownsRow_nil _ _ _ _, HMM2.out, KB.refl _ _⟩
    case round =>
      rename World => wx
      obtain ⟨k, v, s, mo, hk, hgk, rfl, hru, hst, h24, hfo, hown, hmm, hkb⟩ := hrel
      obtain ⟨A11, c11, rfl, hc11, hm11⟩ := own_shape hown
      have hszx := hkb.size
      obtain ⟨hxm, hx0, hx2⟩ := HBX.out wx hkb
      by_cases hlt : k < p.code.length
      case neg =>
        obtain rfl : k = p.code.length := by omega
        rw [List.drop_length] at hfo
        obtain rfl : s = Fx := hfo
        have g0 : wx.cell? ⟨gm, 0, Option.none⟩ = some (.slice (some ⟨gv, 0, Option.none⟩) m.vals.length cv) := by simp [World.cell?, hxm]
        have g1 : wx.cell? ⟨gm, 1, Option.none⟩ = some (.slice (some ⟨gc, 0, Option.none⟩) m.cells.length cc) := by simp [World.cell?, hxm]
        have r0 : wx.cell? ⟨w.heap.size + 2, 0, Option.none⟩ = some (.slice Option.none 0 0) := by simp [World.cell?, hx2]
        have r1 : wx.cell? ⟨w.heap.size + 2, 1, Option.none⟩ = some (.slice Option.none 0 0) := by simp [World.cell?, hx2]
        have f0 : wx.frozen? ⟨w.heap.size + 2, 0, Option.none⟩ = false := Lib.frozen_of_heap hx2 0
        have f1 : wx.frozen? ⟨w.heap.size + 2, 1, Option.none⟩ = false := Lib.frozen_of_heap hx2 1
        obtain ⟨z0, z1, -⟩ := two_set_at hx2 (.slice (some ⟨gv, 0, Option.none⟩) m.vals.length cv) (.slice (some ⟨gc, 0, Option.none⟩) m.cells.length cc)
        have hk11 := two_set_kb wx (w.heap.size + 2) (.slice (some ⟨gv, 0, Option.none⟩) m.vals.length cv) (.slice (some ⟨gc, 0, Option.none⟩) m.cells.length cc)
        have HMM10 := Lib.hid (hmm.keep (hk11.block gv hmm.va.lt (by omega)) (hk11.block gc hmm.ce.lt (by omega)))
        have hbz : Below w.heap.size w wx := ⟨hkb.os.trans HBWc.out.os, hkb.tape.trans HBWc.out.tape, hkb.output.trans HBWc.out.output, by omega, HKO.out wx hkb⟩
        have HB11 := Lib.hid (st_back (n := w.heap.size + 2) hbz (by omega) (.slice (some ⟨gv, 0, Option.none⟩) m.vals.length cv) (.slice (some ⟨gc, 0, Option.none⟩) m.cells.length cc))
        have hlx2 : w.heap.size + 2 < wx.heap.size := by omega
        have hlxm : gm < wx.heap.size := by omega
        clear hru hst hown hmm hkb hlt hxm hx0 hx2 hk11 hbz
        go_wp2
        refine bodyPost_ret (v := .tuple #[.agg #[.slice (some ⟨gv, 0, Option.none⟩) m.vals.length cv, .slice (some ⟨gc, 0, Option.none⟩) m.cells.length cc], .int .i64 0]) ?_ rfl ?_
        · simp [results, Tryz.results14, go_sem, z0, z1]
        · have e1 : (scanP p m inp).vals.length = m.vals.length := by rw [HSP.out]; exact HMM10.out.va.len.trans HVL.out.symm
          have e2 : (scanP p m inp).cells.length = m.cells.length := by rw [HSP.out]; exact HMM10.out.ce.len.trans HCL.out.symm
          refine ⟨⟨some ⟨gv, 0, Option.none⟩, cv, some ⟨gc, 0, Option.none⟩, cc⟩, ?_, ?_, HB11.out⟩
          · rw [HE.out]
            show _ = Ending.returned (.tuple #[.agg #[.slice (some ⟨gv, 0, Option.none⟩) (scanP p m inp).vals.length cv, .slice (some ⟨gc, 0, Option.none⟩) (scanP p m inp).cells.length cc], .int .i64 0])
            rw [e1, e2]
          · rw [HE.out]
            show MmI _ _ (scanP p m inp) _
            rw [HSP.out]
            exact HMM10.out.mmI fun b h1 h2 => ⟨by omega, h2⟩
      obtain ⟨b, o, x, hA, hSb, hx, y0, y1⟩ := inAt (HPG.out.r4.mono InC.mono (fun _ q => q) (HKO.out wx hkb)) hlt
      have hA' : B4 = some ⟨b, o, Option.none⟩ := hA
      subst hA'
      obtain ⟨op, a⟩ := x
      dsimp only at y0 y1
      have hget : p.code[k] = ⟨op, a⟩ := by
        rw [List.getElem?_eq_getElem hlt] at hx
        injection hx
      rw [List.drop_eq_getElem_cons hlt, hget] at hru hfo
      rw [List.foldl_cons] at hfo
      obtain ⟨v', hst', hru'⟩ := run_next hru
      have hI := ins_ok hst' hst
      have hso' := ex_ok HIO.out hst' hst
      have h24' := step_len hst' h24
      have hsl : s.st.length ≤ 24 := by rw [hst.ty.1]; exact h24
      have hbk : b < wx.heap.size := by
        have q : b < w.heap.size := hSb
        omega
      have hbi := box_below wx (Obj.cells #[.int .i64 op, .int .i64 a] 76)
      have HKB1 := Lib.hid (hkb.trans (KB.of_below hbi))
      have HMM1 := Lib.hid (hmm.keep (hbi.block gv hmm.va.lt) (hbi.block gc hmm.ce.lt))
      have HOW := Lib.hid (hown.alloc (Obj.cells #[.int .i64 op, .int .i64 a] 76))
      have HXI := Lib.hid (heap_alloc_new wx (Obj.cells #[.int .i64 op, .int .i64 a] 76))
      have HNX := Lib.hid (fun (W : World) (v13 : Value) (h1 : W.ownsRow wc.heap.size 3 1 v13 (exP p inp s ⟨op, a⟩).st.length ((exP p inp s ⟨op, a⟩).st.map (Value.int .i64))) (h2 : MemW W w4.heap.size gv cv gc cc p (exP p inp s ⟨op, a⟩).vals (exP p inp s ⟨op, a⟩).cells) (h3 : KB (fun b => b = gv ∨ b = gc ∨ wc.heap.size ≤ b) wc W) =>
        show RsL wc w4.heap.size gv cv gc cc p inp most Fx (p.code.length - k) v13 (.int .i64 ((k + 1 : Nat) : Int)) W from ⟨k + 1, v', _, _, by omega, by omega, rfl, by rw [Int.natCast_add]; exact hru', hso', h24', hfo, h1, h2, h3⟩)
      have HST := Lib.hid (And.intro hst' hst)
      have HII := Lib.hid hI
      have HOP := Lib.hid (fun W => roperands_any op W)
      have hsxy : wx.heap.size < (wx.alloc (Obj.cells #[.int .i64 op, .int .i64 a] 76)).heap.size := by rw [World.size_alloc]; omega
      unfold maxLen at hm11
      clear hru hfo hst hown hmm hkb hx hget hst' hru' hI hso' h24' hbi hSb hxm hx0 hx2
      go_upto_region 18 with (refine (HOP.out _).mono ?_; rintro e5 w5 ⟨rfl, rfl⟩)
      generalize wx.alloc (Obj.cells #[.int .i64 op, .int .i64 a] 76) = wy at *
      have hn0 := HII.out.opn
      have hnl := HII.out.len
      dsimp only at hn0 hnl
      obtain ⟨n, hn⟩ : ∃ n : Nat, (opnP op).toNat = n := ⟨_, rfl⟩
      rw [hn] at hnl
      have hni : opnP op = (n : Int) := by omega
      obtain ⟨r, hr⟩ : ∃ r : Nat, s.st.length - n = r := ⟨_, rfl⟩
      have hri : (s.st.length : Int) - opnP op = (r : Int) := by omega
      have hrw : IntKind.i64.wrap ((s.st.length : Int) - opnP op) = (r : Int) := by rw [hri]; exact IntWalk.i64_in _ (by omega)
      have hrl : r ≤ s.st.length := by omega
      have hsl1 : 0 ≤ (r : Int) := by omega
      have hsl2 : (r : Int) ≤ (s.st.length : Int) := by omega
      have hsl3 : (s.st.length : Int) ≤ (c11 : Int) := by omega
      have hsl4 : ((r : Int)).toNat = r := Int.toNat_natCast r
      have hsl5 : (r : Int) ≤ (c11 : Int) := by omega
      obtain ⟨args, hargs⟩ : ∃ args, argsX s ⟨op, a⟩ = args := ⟨_, rfl⟩
      obtain ⟨rst, hrst⟩ : ∃ rst, restX s ⟨op, a⟩ = rst := ⟨_, rfl⟩
      have hadr : s.st.drop r = args := by rw [← hargs, ← hr, ← hn]; rfl
      have hrdr : s.st.take r = rst := by rw [← hrst, ← hr, ← hn]; rfl
      have hall : args.length = n := by rw [← hadr, List.length_drop]; omega
      have hrll : rst.length = r := by rw [← hrdr, List.length_take]; omega
      have HARG := Lib.hid hargs
      have HRST := Lib.hid hrst
      have HADR := Lib.hid hadr
      have HRDR := Lib.hid hrdr
      have HAL := Lib.hid hall
      have HRL := Lib.hid hrll
      have HN := Lib.hid hn
      have HNR := Lib.hid (show s.st.length - r = n by omega)
      have hnew : (wy.alloc (Obj.cells #[] 3)).ownsRow wy.heap.size 3 1 (.slice (some ⟨wy.heap.size, 0, Option.none⟩) 0 0) 0 [] := World.ownsRow_made (e := 3) (size := 1) wy #[] 0 (Nat.le_refl _) (Nat.zero_le _) rfl
      have HNEW := Lib.hid hnew
      have HBN := Lib.hid (box_below wy (Obj.cells #[] 3))
      have hia := own_ia HOW.out (by rfl)
      have HSA := Lib.hid (src_old (src_top hia hrl) HBN.out)
      have HSZ := Lib.hid (fun (h : s.st.length - r = 0) => src_top0 (w := wy.alloc (Obj.cells #[] 3)) (A := A11) (n := s.st.length) (r := r) (l := s.st) rfl h)
      have hz1 : 0 + (s.st.length - r) ≤ maxLen := by unfold maxLen; omega
      have hz2 : (0 + (s.st.length - r)) * 8 ≤ 140737488355328 := by omega
      have hz3 : wy.heap.size ≤ (wy.alloc (Obj.cells #[] 3)).heap.size := by rw [World.size_alloc]; omega
      have HIA := Lib.hid hia
      have hiy := HXI.out
      clear hn hni hr hri hargs hrst hadr hrdr hall hrll hnew hia hn0 y0 y1 hiy
      go_cut [17] (fun v17 wd => ArR wy args v17 wd)
      case first =>
        as_aux_lemma =>
          rcases Nat.lt_or_ge r c11 with hrc | hrc
          · have hne : ¬ r = c11 := by omega
            go_wp2_with (at_builtin; refine wpList_append_src (o := ⟨some 95, _, _, _, _, _⟩) (w := wy.alloc (Obj.cells #[] 3)) _ _ 38 rfl rfl Tryz.underlying38 HTI.out.1 HTI.out.2.1 HTI.out.2.2.1 HTI.out.2.2.2 rfl (by decide) rfl HNEW.out HBN.out rfl HSA.out (int_one _) hz1 hz2 hz3 ?_; intro v9 w9 hown9 hb9 hs9; have HO9 := Lib.hid hown9; have HB9 := Lib.hid hb9; clear hown9 hb9)
            go_meet
            exact ArR.of (by have h := HO9.out; rw [HADR.out] at h; exact h) HB9.out (by rw [HAL.out, HNR.out])
          · have hz0 : n = 0 := by rw [← HNR.out]; omega
            obtain rfl : args = [] := List.eq_nil_of_length_eq_zero (by rw [HAL.out]; exact hz0)
            have HSZ2 := Lib.hid (show Src (wy.alloc (Obj.cells #[] 3)) 1 A11 0 (([] : List Int).map (Value.int .i64)) from ⟨rfl, fun q => absurd q (Nat.lt_irrefl _)⟩)
            obtain rfl : r = c11 := by omega
            clear hz0 hz1 hz2
            have hz1 : 0 + 0 ≤ maxLen := by unfold maxLen; omega
            have hz2 : (0 + 0) * 8 ≤ 140737488355328 := by omega
            go_wp2_with (at_builtin; refine wpList_append_src (o := ⟨some 95, _, _, _, _, _⟩) (w := wy.alloc (Obj.cells #[] 3)) _ _ 38 rfl rfl Tryz.underlying38 HTI.out.1 HTI.out.2.1 HTI.out.2.2.1 HTI.out.2.2.2 rfl (by decide) rfl HNEW.out HBN.out rfl HSZ2.out (int_one _) hz1 hz2 hz3 ?_; intro v9 w9 hown9 hb9 hs9; have HO9 := Lib.hid hown9; have HB9 := Lib.hid hb9; clear hown9 hb9)
            go_meet
            exact ArR.of HO9.out HB9.out rfl
      case rest =>
        rename World => wd
        obtain ⟨A17, c17, rfl, hown17, hb17⟩ := hcut
        obtain ⟨_, _, q17, hc17, hm17⟩ := own_shape hown17
        cases q17
        have HO17 := Lib.hid hown17
        have HB17 := Lib.hid hb17
        have HOW2 := Lib.hid (own_below HOW.out hb17 (Nat.le_refl _))
        have HXI2 := Lib.hid ((hb17.block wx.heap.size hsxy).trans HXI.out)
        have hs17 := hb17.size
        have hnew : (wd.alloc (Obj.cells #[] 3)).ownsRow wd.heap.size 3 1 (.slice (some ⟨wd.heap.size, 0, Option.none⟩) 0 0) 0 [] := World.ownsRow_made (e := 3) (size := 1) wd #[] 0 (Nat.le_refl _) (Nat.zero_le _) rfl
        clear HNEW HBN HSA HSZ hz1 hz2 hz3
        have HNEW := Lib.hid hnew
        have HBN := Lib.hid (box_below wd (Obj.cells #[] 3))
        have HSA := Lib.hid (src_old (ia_src7 (rw_take7 (own_ia HOW2.out (by rfl)) hrl)) HBN.out)
        have hz1 : 0 + r ≤ maxLen := by unfold maxLen; omega
        have hz2 : (0 + r) * 8 ≤ 140737488355328 := by omega
        have hz3 : wd.heap.size ≤ (wd.alloc (Obj.cells #[] 3)).heap.size := by rw [World.size_alloc]; omega
        clear hown17 hb17 hnew HOW HXI
        go_upto_region 19 with fail
        go_cut [13] (fun v13 we => ArR wd rst v13 we)
        case first =>
          go_wp2_with (at_builtin; refine wpList_append_src (o := ⟨some 103, _, _, _, _, _⟩) (w := wd.alloc (Obj.cells #[] 3)) _ _ 38 rfl rfl Tryz.underlying38 HTI.out.1 HTI.out.2.1 HTI.out.2.2.1 HTI.out.2.2.2 rfl (by decide) rfl HNEW.out HBN.out rfl HSA.out (int_one _) hz1 hz2 hz3 ?_; intro v9 w9 hown9 hb9 hs9; have HO9 := Lib.hid hown9; have HB9 := Lib.hid hb9; clear hown9 hb9)
          all_goals
            go_meet
            exact ArR.of (by have h := HO9.out; rw [HRDR.out] at h; exact h) HB9.out (by rw [HRL.out])
        case rest =>
          rename World => we
          obtain ⟨A13, c13, rfl, hown13, hb13⟩ := hcut
          obtain ⟨_, _, q13, hc13, hm13⟩ := own_shape hown13
          cases q13
          have hs13 := hb13.size
          have hO17 := own_below HO17.out hb13 (Nat.le_refl _)
          have hA17 := own_ia hO17 (by rfl)
          have hxi := (hb13.block wx.heap.size (by omega)).trans HXI2.out
          have i0 : we.cell? ⟨wx.heap.size, 0, Option.none⟩ = some (.int .i64 op) := by simp [World.cell?, hxi]
          have i1 : we.cell? ⟨wx.heap.size, 1, Option.none⟩ = some (.int .i64 a) := by simp [World.cell?, hxi]
          have hbe := below_two HB17.out hb13 HB17.out.size
          have HKB2 := Lib.hid (HKB1.out.trans (KB.of_below hbe))
          have hmm2 := HMM1.out.keep (hbe.block gv HMM1.out.va.lt) (hbe.block gc HMM1.out.ce.lt)
          have HMM3 := Lib.hid hmm2
          have HA17 := Lib.hid hA17
          have HO13 := Lib.hid (own_base hown13 (show wc.heap.size ≤ wd.heap.size by omega))
          have HXIe := Lib.hid hxi
          have HLO := Lib.hid (fun g q => (HO17.out.lt g q).1)
          have hlxi : wx.heap.size < we.heap.size := by omega
          have hlwc : wc.heap.size ≤ we.heap.size := by omega
          have hr24 : r ≤ 24 := by omega
          unfold maxLen at hm13
          have HHC := Lib.hid (fun W => rhas_any op W)
          rw [← HRL.out] at hr24
          clear hown13 hO17 hA17 hxi hbe hmm2 hb13 HOW2 HXI2 HKB1 HMM1 HB17 HO17 HNEW HBN HSA hz1 hz2 hz3 HIA
          rcases op_cases HII.out.opn with h12 | h30 | h31 | h32 | h17 | h4
          · as_aux_lemma =>
              have HEX := Lib.hid (ex_lit p inp s (c := ⟨op, a⟩) h12)
              have hz0 : n = 0 := by rw [← HN.out]; rcases h12 with e | e <;> (dsimp only at e; rw [e]; rfl)
              have hrs : rst = s.st := by rw [← HRDR.out]; exact List.take_of_length_le (by have := HNR.out; omega)
              have HRS := Lib.hid hrs
              clear hrs
              clear hz0
              dsimp only at h12
              rcases h12 with rfl | rfl
              all_goals
                have HOX := Lib.hid (HO13.out.alloc (Obj.cells #[.int .i64 a] 3))
                have HBB := Lib.hid (box_below we (Obj.cells #[.int .i64 a] 3))
                have HBB2 := Lib.hid (HBB.out.mono (show wc.heap.size ≤ we.heap.size by omega))
                have HSB := Lib.hid (src_box we [.int .i64 a] 3 1 1 rfl)
                have hy1 : rst.length + 1 ≤ maxLen := by unfold maxLen; omega
                have hy2 : (rst.length + 1) * 8 ≤ 140737488355328 := by omega
                have hy3 : wc.heap.size ≤ (we.alloc (Obj.cells #[.int .i64 a] 3)).heap.size := by rw [World.size_alloc]; omega
                go_wp2_with (first | (refine (HHC.out _).mono ?_; rintro e8 w8 ⟨rfl, rfl⟩) | (refine (HLM.out _).mono ?_; rintro e8 w8 ⟨rfl, rfl⟩) | (at_builtin; refine wpList_append_grown (o := ⟨some 136, _, _, _, _, _⟩) (w := we.alloc (Obj.cells #[.int .i64 a] 3)) _ _ 38 rfl rfl Tryz.underlying38 HTI.out.1 HTI.out.2.1 HTI.out.2.2.1 HTI.out.2.2.2 rfl (by decide) rfl HOX.out rfl HSB.out (by intro u hu; rw [List.mem_singleton.1 hu]; rfl) hy1 hy2 hy3 ?_; intro v10 w10 hown10 hg10 hv10; have HO10 := Lib.hid hown10; have HG10 := Lib.hid hg10; clear hown10 hg10 hv10))
                go_roundg (p.code.length - k)
                case measure => omega
                case rel =>
                  have hkb10 := HKB2.out.trans ((KB.of_below HBB.out).trans (KB.of_grown (S := fun b => b = gv ∨ b = gc ∨ wc.heap.size ≤ b) HG10.out (fun b _ q => .inr (.inr ((HOX.out.lt b q).1)))))
                  have hnb : ∀ b, b < wc.heap.size → b < we.heap.size → w10.heap[b]? = we.heap[b]? := fun b h1 h2 => (HG10.out.block b (Nat.lt_of_lt_of_le h2 HBB.out.size) (fun q => by have := (HOX.out.lt b q.symm).1; omega)).trans (HBB.out.block b h2)
                  refine HNX.out _ _ ?_ ?_ hkb10
                  · rw [HEX.out]
                    have h := HO10.out
                    rw [HRS.out] at h
                    simpa using h
                  · rw [HEX.out]
                    exact HMM3.out.keep (hnb gv (by omega) (by omega)) (hnb gc (by omega) (by omega))
          · as_aux_lemma =>
              dsimp only at h30
              subst h30
              obtain ⟨j, rfl⟩ : ∃ j : Nat, a = (j : Int) := ⟨a.toNat, by have := (HII.out.inp rfl).1; dsimp only at this; omega⟩
              have hj : j < inp.length := by have := (HII.out.inp rfl).2; rw [HIO.out.1]; dsimp only at this; omega
              obtain ⟨b', o', z, hA', hSb', hz, u0⟩ := iaAt (HI.out.mono IaC.mono (fun _ q => q) (HKO.out we HKB2.out)) hj
              subst hA'
              have hgz : inp.getD (Int.toNat (j : Int)) 0 = z := by rw [List.getD_eq_getElem?_getD, Int.toNat_natCast, hz]; rfl
              have hex := ex_inp p inp s (c := ⟨30, (j : Int)⟩) rfl
              dsimp only at hex
              rw [hgz] at hex
              have HEX := Lib.hid hex
              have HLM := Lib.hid (fun W => rlimit_any z W)
              have hz0 : n = 0 := by rw [← HN.out]; rfl
              have hrs : rst = s.st := by rw [← HRDR.out]; exact List.take_of_length_le (by have := HNR.out; omega)
              have HRS := Lib.hid hrs
              clear hz0 hrs
              have hbk' : b' < we.heap.size := by
                have q : b' < w.heap.size := hSb'
                omega
              have hji : (j : Int) < (inp.length : Int) := by omega
              have hjc : (j : Int) < (ci : Int) := by omega
              clear hex hgz hz hSb'
              have HOX := Lib.hid (HO13.out.alloc (Obj.cells #[.int .i64 (limP z)] 3))
              have HBB := Lib.hid (box_below we (Obj.cells #[.int .i64 (limP z)] 3))
              have HBB2 := Lib.hid (HBB.out.mono (show wc.heap.size ≤ we.heap.size by omega))
              have HSB := Lib.hid (src_box we [.int .i64 (limP z)] 3 1 1 rfl)
              have hy1 : rst.length + 1 ≤ maxLen := by unfold maxLen; omega
              have hy2 : (rst.length + 1) * 8 ≤ 140737488355328 := by omega
              have hy3 : wc.heap.size ≤ (we.alloc (Obj.cells #[.int .i64 (limP z)] 3)).heap.size := by rw [World.size_alloc]; omega
              go_wp2_with (first | (refine (HHC.out _).mono ?_; rintro e8 w8 ⟨rfl, rfl⟩) | (refine (HLM.out _).mono ?_; rintro e8 w8 ⟨rfl, rfl⟩) | (at_builtin; refine wpList_append_grown (o := ⟨some 149, _, _, _, _, _⟩) (w := we.alloc (Obj.cells #[.int .i64 (limP z)] 3)) _ _ 38 rfl rfl Tryz.underlying38 HTI.out.1 HTI.out.2.1 HTI.out.2.2.1 HTI.out.2.2.2 rfl (by decide) rfl HOX.out rfl HSB.out (by intro u hu; rw [List.mem_singleton.1 hu]; rfl) hy1 hy2 hy3 ?_; intro v10 w10 hown10 hg10 hv10; have HO10 := Lib.hid hown10; have HG10 := Lib.hid hg10; clear hown10 hg10 hv10))
              go_roundg (p.code.length - k)
              case measure => omega
              case rel =>
                have hkb10 := HKB2.out.trans ((KB.of_below HBB.out).trans (KB.of_grown (S := fun b => b = gv ∨ b = gc ∨ wc.heap.size ≤ b) HG10.out (fun b _ q => .inr (.inr ((HOX.out.lt b q).1)))))
                have hnb : ∀ b, b < wc.heap.size → b < we.heap.size → w10.heap[b]? = we.heap[b]? := fun b h1 h2 => (HG10.out.block b (Nat.lt_of_lt_of_le h2 HBB.out.size) (fun q => by have := (HOX.out.lt b q.symm).1; omega)).trans (HBB.out.block b h2)
                refine HNX.out _ _ ?_ ?_ hkb10
                · rw [HEX.out]
                  have h := HO10.out
                  rw [HRS.out] at h
                  simpa using h
                · rw [HEX.out]
                  exact HMM3.out.keep (hnb gv (by omega) (by omega)) (hnb gc (by omega) (by omega))
          · as_aux_lemma =>
              dsimp only at h31
              subst h31
              obtain ⟨j, rfl⟩ : ∃ j : Nat, a = (j : Int) := ⟨a.toNat, by have := (HII.out.rul (.inl rfl)).1; dsimp only at this; omega⟩
              have hj : j < p.rls.length := by have := (HII.out.rul (.inl rfl)).2; dsimp only at this; omega
              have hjv : j < s.vals.length := by rw [HST.out.2.vl]; exact hj
              obtain ⟨u0, -⟩ := HMM3.out.va.get (List.getElem?_eq_getElem hjv)
              obtain ⟨z, hz⟩ : ∃ z, s.vals[j] = z := ⟨_, rfl⟩
              rw [hz] at u0
              have hex := ex_rul p inp s (c := ⟨31, (j : Int)⟩) rfl
              have hgz : s.vals.getD (Int.toNat (j : Int)) 0 = z := by rw [List.getD_eq_getElem?_getD, Int.toNat_natCast, List.getElem?_eq_getElem hjv, hz]; rfl
              dsimp only at hex
              rw [hgz] at hex
              have HEX := Lib.hid hex
              have hxm := (HBX.out we HKB2.out).1
              have g0 : we.cell? ⟨gm, 0, Option.none⟩ = some (.slice (some ⟨gv, 0, Option.none⟩) m.vals.length cv) := by simp [World.cell?, hxm]
              have hlgm : gm < we.heap.size := by omega
              have hlgv : gv < we.heap.size := by omega
              have hz0 : n = 0 := by rw [← HN.out]; rfl
              have hrs : rst = s.st := by rw [← HRDR.out]; exact List.take_of_length_le (by have := HNR.out; omega)
              have HRS := Lib.hid hrs
              clear hz0 hrs
              have hji : (j : Int) < (m.vals.length : Int) := by have := HVL.out; omega
              clear hex hgz hz hxm
              have HOX := Lib.hid (HO13.out.alloc (Obj.cells #[.int .i64 z] 3))
              have HBB := Lib.hid (box_below we (Obj.cells #[.int .i64 z] 3))
              have HBB2 := Lib.hid (HBB.out.mono (show wc.heap.size ≤ we.heap.size by omega))
              have HSB := Lib.hid (src_box we [.int .i64 z] 3 1 1 rfl)
              have hy1 : rst.length + 1 ≤ maxLen := by unfold maxLen; omega
              have hy2 : (rst.length + 1) * 8 ≤ 140737488355328 := by omega
              have hy3 : wc.heap.size ≤ (we.alloc (Obj.cells #[.int .i64 z] 3)).heap.size := by rw [World.size_alloc]; omega
              go_wp2_with (first | (refine (HHC.out _).mono ?_; rintro e8 w8 ⟨rfl, rfl⟩) | (refine (HLM.out _).mono ?_; rintro e8 w8 ⟨rfl, rfl⟩) | (at_builtin; refine wpList_append_grown (o := ⟨some 162, _, _, _, _, _⟩) (w := we.alloc (Obj.cells #[.int .i64 z] 3)) _ _ 38 rfl rfl Tryz.underlying38 HTI.out.1 HTI.out.2.1 HTI.out.2.2.1 HTI.out.2.2.2 rfl (by decide) rfl HOX.out rfl HSB.out (by intro u hu; rw [List.mem_singleton.1 hu]; rfl) hy1 hy2 hy3 ?_; intro v10 w10 hown10 hg10 hv10; have HO10 := Lib.hid hown10; have HG10 := Lib.hid hg10; clear hown10 hg10 hv10))
              go_roundg (p.code.length - k)
              case measure => omega
              case rel =>
                have hkb10 := HKB2.out.trans ((KB.of_below HBB.out).trans (KB.of_grown (S := fun b => b = gv ∨ b = gc ∨ wc.heap.size ≤ b) HG10.out (fun b _ q => .inr (.inr ((HOX.out.lt b q).1)))))
                have hnb : ∀ b, b < wc.heap.size → b < we.heap.size → w10.heap[b]? = we.heap[b]? := fun b h1 h2 => (HG10.out.block b (Nat.lt_of_lt_of_le h2 HBB.out.size) (fun q => by have := (HOX.out.lt b q.symm).1; omega)).trans (HBB.out.block b h2)
                refine HNX.out _ _ ?_ ?_ hkb10
                · rw [HEX.out]
                  have h := HO10.out
                  rw [HRS.out] at h
                  simpa using h
                · rw [HEX.out]
                  exact HMM3.out.keep (hnb gv (by omega) (by omega)) (hnb gc (by omega) (by omega))
          · as_aux_lemma =>
              dsimp only at h32
              subst h32
              obtain ⟨j, rfl⟩ : ∃ j : Nat, a = (j : Int) := ⟨a.toNat, by have := (HII.out.rul (.inr rfl)).1; dsimp only at this; omega⟩
              have hj : j < p.rls.length := by have := (HII.out.rul (.inr rfl)).2; dsimp only at this; omega
              have hjv : j < s.vals.length := by rw [HST.out.2.vl]; exact hj
              obtain ⟨x, hax⟩ := len_one (l := args) (by rw [HAL.out, ← HN.out]; rfl)
              subst hax
              have hex := ex_sto p inp s (c := ⟨32, (j : Int)⟩) rfl
              dsimp only at hex
              rw [HARG.out, HRST.out, Int.toNat_natCast] at hex
              have hex' : exP p inp s ⟨32, (j : Int)⟩ = ⟨rst, s.vals.set j x, s.cells⟩ := hex
              have HEX := Lib.hid hex'
              obtain ⟨b7, o7, x', hA7, hSb7, hx7, z0⟩ := iaAt HA17.out (show 0 < 1 by decide)
              subst hA7
              have hn7 : b7 ≠ gv := by have h7 := HLO.out b7 rfl; omega
              have hnx : wx.heap.size ≠ gv := by omega
              have hxx : x = x' := Option.some.inj ((List.getElem?_cons_zero (a := x) (l := [])).symm.trans hx7)
              subst hxx
              have hxm := (HBX.out we HKB2.out).1
              have g0 : we.cell? ⟨gm, 0, Option.none⟩ = some (.slice (some ⟨gv, 0, Option.none⟩) m.vals.length cv) := by simp [World.cell?, hxm]
              obtain ⟨u0, v0⟩ := HMM3.out.va.get (List.getElem?_eq_getElem hjv)
              have hlgm : gm < we.heap.size := by omega
              have hlgv : gv < we.heap.size := by omega
              have hlb7 : b7 < we.heap.size := hSb7
              have hji : (j : Int) < (m.vals.length : Int) := by have := HVL.out; omega
              have hj0 : (0 : Int) ≤ (j : Int) := by omega
              simp only [Nat.add_zero] at z0
              have HSTK := Lib.hid (fun (W : World) (h : W.heap = (we.setCell ⟨gv, j, Option.none⟩ (.int .i64 x)).heap) => show W.cell? ⟨gm, 0, Option.none⟩ = some (.slice (some ⟨gv, 0, Option.none⟩) m.vals.length cv) ∧ W.cell? ⟨wx.heap.size, 1, Option.none⟩ = some (.int .i64 (j : Int)) ∧ W.cell? ⟨b7, o7, Option.none⟩ = some (.int .i64 x) from by
                have e : ∀ b, b ≠ gv → W.heap[b]? = we.heap[b]? := fun b q => by rw [h]; exact hp_set _ _ _ q
                exact ⟨(World.cell?_of_block (e _ n1)).trans g0, (World.cell?_of_block (e _ hnx)).trans i1, (World.cell?_of_block (e _ hn7)).trans z0⟩)
              clear hex hex' hx7 hSb7 hxm
              go_upto_region 22 with fail
              go_region_held3 (fun w' => w'.cell? ⟨gm, 0, Option.none⟩ = some (.slice (some ⟨gv, 0, Option.none⟩) m.vals.length cv) ∧ w'.cell? ⟨wx.heap.size, 1, Option.none⟩ = some (.int .i64 (j : Int)) ∧ w'.cell? ⟨b7, o7, Option.none⟩ = some (.int .i64 x)) (first | exact HSTK.out _ rfl | go_keep) (fail)
              all_goals
                have HFIN : Hid ((we.setCell ⟨gv, j, Option.none⟩ (.int .i64 x)).drew.ownsRow wc.heap.size 3 1 (.slice A13 rst.length c13) rst.length (rst.map (Value.int .i64)) ∧ MemW (we.setCell ⟨gv, j, Option.none⟩ (.int .i64 x)).drew w4.heap.size gv cv gc cc p (s.vals.set j x) s.cells ∧ KB (fun b => b = gv ∨ b = gc ∨ wc.heap.size ≤ b) wc (we.setCell ⟨gv, j, Option.none⟩ (.int .i64 x)).drew) := by
                  refine Lib.hid ⟨own_heap HO13.out (fun b q _ => ?_), ⟨(HMM3.out.va.set j x).keep rfl, HMM3.out.ce.keep (hp_set _ _ _ (Ne.symm HMM3.out.ne)), HMM3.out.ne⟩, (HKB2.out.trans (KB.of_grown (grown_set we gv j _) (fun b _ q => by injection q with q; exact .inl q.symm))).trans (kb_drew _ _)⟩
                  have h := (HO13.out.lt b q).1
                  exact hp_set _ _ _ (by omega)
                go_wp2
                go_roundg (p.code.length - k)
                case measure => omega
                case rel => exact HNX.out _ _ (by rw [HEX.out]; exact HFIN.out.1) (by rw [HEX.out]; exact HFIN.out.2.1) HFIN.out.2.2
          · as_aux_lemma =>
              obtain ⟨h17a, h17b⟩ := h17
              dsimp only at h17a h17b
              obtain ⟨u, lc, t, hau, hl, ht, hlo, hn0, hn5, hps⟩ := HII.out.cel (kept_iff.2 ⟨h17a, h17b⟩)
              dsimp only at hau hlo
              subst hau
              obtain ⟨lop, ln⟩ := lc
              dsimp only at hlo hn0 hn5
              subst hlo
              have hul := (List.getElem?_eq_some_iff.1 hl).1
              have huc := (List.getElem?_eq_some_iff.1 ht).1
              have hex := ex_cel p inp s (c := ⟨lop, (u : Int)⟩) ⟨h17a, h17b⟩ rfl hl ht
              dsimp only at hex
              rw [HARG.out, HRST.out] at hex
              rw [← cell_same ⟨h17a, h17b⟩ hps] at hex
              have HEX := Lib.hid hex
              obtain ⟨b', o', l', hA', hSb', hl', y0, y1⟩ := ceAt (HPG.out.r3.mono CeC.mono (fun _ q => q) (HKO.out we HKB2.out)) hul
              rw [hl] at hl'
              cases hl'
              have hA2 : B3 = some ⟨b', o', Option.none⟩ := hA'
              subst hA2
              dsimp only at y0 y1
              have hbk' : b' < we.heap.size := by
                have q : b' < w.heap.size := hSb'
                omega
              have hcap : 0 ≤ t.n ∧ t.n ≤ 100000 := by
                have h1 := poss_parts.1 hps
                refine ⟨h1.2.1, ?_⟩
                have h2 := h1.2.2
                unfold capP at h2
                dsimp only at h2
                split at h2
                · omega
                split at h2
                · omega
                split at h2 <;> omega
              have HCE := Lib.hid (fun x y W => rcell_any (op := lop) (n := ln) (c := t) x y W ⟨h17a, h17b⟩ ⟨hn0, by omega⟩ hcap)
              have hkp : keptB lop = true := kept_iff.2 ⟨h17a, h17b⟩
              have hhc := fun W => rhas_any lop W
              simp only [hkp] at hhc
              have HHD := Lib.hid hhc
              obtain ⟨t0', t1', t2', t3'⟩ := HMM3.out.ce.get ht
              obtain ⟨hxm, hx0, -⟩ := HBX.out we HKB2.out
              have g1 : we.cell? ⟨gm, 1, Option.none⟩ = some (.slice (some ⟨gc, 0, Option.none⟩) m.cells.length cc) := by simp [World.cell?, hxm]
              have q2 : we.cell? ⟨w.heap.size, 2, Option.none⟩ = some (.slice (some ⟨b', o', Option.none⟩) p.cells.length k3) := by simp [World.cell?, hx0]
              have hlgm : gm < we.heap.size := by omega
              have hlgc : gc < we.heap.size := by omega
              have hlw0 : w.heap.size < we.heap.size := by omega
              have huj : (u : Int) < (p.cells.length : Int) := by omega
              have hum : (u : Int) < (m.cells.length : Int) := by have := HCL.out; omega
              obtain ⟨x0, A1', hA1'⟩ : ∃ x0 tl, args = x0 :: tl := by
                cases args with
                | nil => exact absurd (HAL.out.trans HN.out.symm) (by show ¬ (0 = _); rcases (show lop = 17 ∨ lop = 18 ∨ lop = 19 ∨ lop = 20 ∨ lop = 21 ∨ lop = 22 by omega) with e | e | e | e | e | e <;> (rw [e]; decide))
                | cons x0 tl => exact ⟨x0, tl, rfl⟩
              subst hA1'
              obtain ⟨b7, o7, x', hA7, hSb7, hx7, z0⟩ := iaAt HA17.out (show 0 < (x0 :: A1').length from Nat.succ_pos _)
              subst hA7
              have hn7 : b7 ≠ gc := by have h7 := HLO.out b7 rfl; omega
              have hnx : wx.heap.size ≠ gc := by omega
              have hxx : x0 = x' := Option.some.inj ((List.getElem?_cons_zero (a := x0) (l := A1')).symm.trans hx7)
              subst hxx
              have hlb7 : b7 < we.heap.size := hSb7
              have hj0 : (0 : Int) < ((x0 :: A1').length : Int) := by rw [List.length_cons]; omega
              rw [Nat.add_zero] at z0
              have b1 : (lop == 1) = false := by simp; omega
              have b2 : (lop == 2) = false := by simp; omega
              have b30 : (lop == 30) = false := by simp; omega
              have b31 : (lop == 31) = false := by simp; omega
              have b32 : (lop == 32) = false := by simp; omega
              obtain ⟨ton, tn⟩ := t
              dsimp only at t0' t1' hcap
              have hUW : ∀ W : World, (∀ b, b < we.heap.size → W.heap[b]? = we.heap[b]?) → W.cell? ⟨wx.heap.size, 0, Option.none⟩ = some (.int .i64 lop) ∧ W.cell? ⟨wx.heap.size, 1, Option.none⟩ = some (.int .i64 (u : Int)) ∧ W.cell? ⟨w.heap.size, 2, Option.none⟩ = some (.slice (some ⟨b', o', Option.none⟩) p.cells.length k3) ∧ W.cell? ⟨b', o' + u * 2 + 1, Option.none⟩ = some (.int .i64 ln) ∧
                  W.cell? ⟨gm, 1, Option.none⟩ = some (.slice (some ⟨gc, 0, Option.none⟩) m.cells.length cc) ∧ W.cell? ⟨gc, u * 2, Option.none⟩ = some (.bool ton) ∧ W.cell? ⟨gc, u * 2 + 1, Option.none⟩ = some (.int .i64 tn) ∧ W.cell? ⟨b7, o7, Option.none⟩ = some (.int .i64 x0) := fun W h =>
                ⟨(World.cell?_of_block (h _ hlxi)).trans i0, (World.cell?_of_block (h _ hlxi)).trans i1, (World.cell?_of_block (h _ hlw0)).trans q2, (World.cell?_of_block (h _ hbk')).trans y1, (World.cell?_of_block (h _ hlgm)).trans g1, (World.cell?_of_block (h _ hlgc)).trans t0', (World.cell?_of_block (h _ hlgc)).trans t1', (World.cell?_of_block (h _ hlb7)).trans z0⟩
              have HUW := Lib.hid hUW
              have HKX := Lib.hid (fun (W : World) (h : Below we.heap.size we W) => HUW.out W (fun b q => h.block b q))
              have HTT := Lib.hid ht
              clear hex hkp hhc hUW hxm hx0 hx7 hSb7 hSb' hl ht hps HHC t2' t3'
              rcases (show opnP lop = 1 ∨ opnP lop = 2 by rcases (show lop = 17 ∨ lop = 18 ∨ lop = 19 ∨ lop = 20 ∨ lop = 21 ∨ lop = 22 by omega) with e | e | e | e | e | e <;> (rw [e]; decide)) with hop | hop
              · have hq2 : (opnP lop == 2) = false := by rw [hop]; decide
                obtain rfl : A1' = [] := List.eq_nil_of_length_eq_zero (by have h := HAL.out; rw [List.length_cons] at h; have h2 := HN.out; rw [hop] at h2; have h3 : (1 : Int).toNat = 1 := rfl; omega)
                clear hop
                obtain ⟨rr, hrr⟩ : ∃ rr, cellR lop ln ⟨ton, tn⟩ (x0 == 1) false = rr := ⟨_, rfl⟩
                have hce := fun W => HCE.out (x0 == 1) false W
                simp only [hrr] at hce
                have HC1 := Lib.hid hce
                have hex2 : exP p inp s ⟨lop, (u : Int)⟩ = ⟨rst ++ [rr.1], s.vals, s.cells.set u rr.2⟩ := by rw [← hrr]; exact HEX.out
                clear HEX
                have HEX := Lib.hid hex2
                clear hce hrr hex2 HCE
                go_upto_region 33 with (refine (HHD.out _).mono ?_; rintro e8 w8 ⟨rfl, rfl⟩)
                go_cut [19, 20] (fun v19 v20 wf => ClR we rr v19 v20 wf)
                case first =>
                  go_region_held3 (fun w' => w'.cell? ⟨wx.heap.size, 0, Option.none⟩ = some (.int .i64 lop) ∧ w'.cell? ⟨wx.heap.size, 1, Option.none⟩ = some (.int .i64 (u : Int)) ∧ w'.cell? ⟨w.heap.size, 2, Option.none⟩ = some (.slice (some ⟨b', o', Option.none⟩) p.cells.length k3) ∧ w'.cell? ⟨b', o' + u * 2 + 1, Option.none⟩ = some (.int .i64 ln) ∧ w'.cell? ⟨gm, 1, Option.none⟩ = some (.slice (some ⟨gc, 0, Option.none⟩) m.cells.length cc) ∧ w'.cell? ⟨gc, u * 2, Option.none⟩ = some (.bool ton) ∧ w'.cell? ⟨gc, u * 2 + 1, Option.none⟩ = some (.int .i64 tn) ∧ w'.cell? ⟨b7, o7, Option.none⟩ = some (.int .i64 x0)) (first | exact HKX.out _ hbe12 | exact HKX.out _ (below_drew hbe12) | exact HKX.out _ ((hbe12).alloc (hbe12).size _) | exact HKX.out _ (below_drew ((hbe12).alloc (hbe12).size _)) | exact HKX.out _ (Below.refl we.heap.size we) | exact HKX.out _ (below_drew (Below.refl we.heap.size we)) | exact HKX.out _ (((Below.refl we.heap.size we)).alloc ((Below.refl we.heap.size we)).size _) | exact HKX.out _ (below_drew (((Below.refl we.heap.size we)).alloc ((Below.refl we.heap.size we)).size _)) | exact HKX.out _ (st_back hbe12 (Nat.le_refl _) _ _) | exact HKX.out _ (st_back (below_drew hbe12) (Nat.le_refl _) _ _) | exact HKX.out _ (below_drew (st_back hbe12 (Nat.le_refl _) _ _))) ((go_at_call 33; refine (HC1.out _).mono ?_; rintro e w12 ⟨rfl, hb12⟩; (first | have hbe12 := below_two (Below.refl we.heap.size we) hb12 (Below.refl we.heap.size we).size | have hbe12 := below_two (((Below.refl we.heap.size we)).alloc ((Below.refl we.heap.size we)).size _) hb12 (((Below.refl we.heap.size we)).alloc ((Below.refl we.heap.size we)).size _).size | have hbe12 := below_two (below_drew (Below.refl we.heap.size we)) hb12 (below_drew (Below.refl we.heap.size we)).size | have hbe12 := below_two (below_drew (((Below.refl we.heap.size we)).alloc ((Below.refl we.heap.size we)).size _)) hb12 (below_drew (((Below.refl we.heap.size we)).alloc ((Below.refl we.heap.size we)).size _)).size); (first | (have hgm6 : w12.heap[we.heap.size]? = some (Obj.cells #[.bool false, .int .i64 0] 83) := (hb12.block we.heap.size (by (try simp only [hpz]); omega)).trans (by exact heap_alloc_new we _); obtain ⟨c0, c1, c2, c3, c4⟩ := cs_cells hgm6) | skip)))
                  all_goals
                    go_wp2
                    go_meet
                    first
                      | exact cl_A hbe12
                      | exact (cl_A hbe12).drew
                      | exact cl_B hbe12 hgm6
                      | exact (cl_B hbe12 hgm6).drew
                      | exact cl_B (below_drew hbe12) hgm6
                case rest =>
                  rename World => wf
                  obtain ⟨bx, rfl, rfl, hbx, c0, c1, hbf⟩ := hcut
                  obtain ⟨-, i1', -, -, g1', -, -, -⟩ := HUW.out wf (fun b q => hbf.block b q)
                  have hsf := hbf.size
                  have HO14 := own_below HO13.out hbf (Nat.le_refl _)
                  have HKB4 := HKB2.out.trans (KB.of_below hbf)
                  have HMM4 := HMM3.out.keep (hbf.block gv HMM3.out.va.lt) (hbf.block gc HMM3.out.ce.lt)
                  obtain ⟨e0, e1, e2, e3⟩ := HMM4.ce.get HTT.out
                  dsimp only at e0 e1
                  have hca := (HMM4.ce.setOn HTT.out rr.2.on).setN (set_at HTT.out _) rr.2.n
                  rw [set_set] at hca
                  have HMM5 := Lib.hid (show MemW ((wf.setCell ⟨gc, u * 2, Option.none⟩ (.bool rr.2.on)).setCell ⟨gc, u * 2 + 1, Option.none⟩ (.int .i64 rr.2.n)) w4.heap.size gv cv gc cc p s.vals (s.cells.set u rr.2) from ⟨HMM4.va.keep ((hp_set _ _ _ HMM4.ne).trans (hp_set _ _ _ HMM4.ne)), hca, HMM4.ne⟩)
                  have HO15 := Lib.hid (show ((wf.setCell ⟨gc, u * 2, Option.none⟩ (.bool rr.2.on)).setCell ⟨gc, u * 2 + 1, Option.none⟩ (.int .i64 rr.2.n)).ownsRow wc.heap.size 3 1 (.slice A13 rst.length c13) rst.length (rst.map (Value.int .i64)) from own_heap HO14 (fun b q _ => by
                    have h := (HO14.lt b q).1
                    exact (hp_set _ _ _ (by omega)).trans (hp_set _ _ _ (by omega))))
                  have HKB5 := Lib.hid (show KB (fun b => b = gv ∨ b = gc ∨ wc.heap.size ≤ b) wc ((wf.setCell ⟨gc, u * 2, Option.none⟩ (.bool rr.2.on)).setCell ⟨gc, u * 2 + 1, Option.none⟩ (.int .i64 rr.2.n)) from (HKB4.trans (KB.of_grown (grown_set wf gc _ _) (fun b _ q => by injection q with q; exact .inr (.inl q.symm)))).trans (KB.of_grown (grown_set _ gc _ _) (fun b _ q => by injection q with q; exact .inr (.inl q.symm))))
                  have hlgc' : gc < wf.heap.size := by omega
                  have hlgm' : gm < wf.heap.size := by omega
                  have hlxi' : wx.heap.size < wf.heap.size := by omega
                  have hl5 : wc.heap.size ≤ ((wf.setCell ⟨gc, u * 2, Option.none⟩ (.bool rr.2.on)).setCell ⟨gc, u * 2 + 1, Option.none⟩ (.int .i64 rr.2.n)).heap.size := by simp only [World.size_setCell]; omega
                  have hgv5 : gv < ((wf.setCell ⟨gc, u * 2, Option.none⟩ (.bool rr.2.on)).setCell ⟨gc, u * 2 + 1, Option.none⟩ (.int .i64 rr.2.n)).heap.size := by simp only [World.size_setCell]; omega
                  have hgc5 : gc < ((wf.setCell ⟨gc, u * 2, Option.none⟩ (.bool rr.2.on)).setCell ⟨gc, u * 2 + 1, Option.none⟩ (.int .i64 rr.2.n)).heap.size := by simp only [World.size_setCell]; omega
                  clear hca HO14 HKB4 HMM4 HC1 hbf
                  clear i0 i1 q2 g1 t0' t1' z0 y0 y1
                  go_upto_region 35 with fail
                  generalize (wf.setCell ⟨gc, u * 2, Option.none⟩ (.bool rr.2.on)).setCell ⟨gc, u * 2 + 1, Option.none⟩ (.int .i64 rr.2.n) = wg at *
                  have HOX := Lib.hid (HO15.out.alloc (Obj.cells #[.int .i64 rr.1] 3))
                  have HBB := Lib.hid (box_below wg (Obj.cells #[.int .i64 rr.1] 3))
                  have HBB2 := Lib.hid (HBB.out.mono (show wc.heap.size ≤ wg.heap.size by omega))
                  have HSB := Lib.hid (src_box wg [.int .i64 rr.1] 3 1 1 rfl)
                  have hy1 : rst.length + 1 ≤ maxLen := by unfold maxLen; omega
                  have hy2 : (rst.length + 1) * 8 ≤ 140737488355328 := by omega
                  have hy3 : wc.heap.size ≤ (wg.alloc (Obj.cells #[.int .i64 rr.1] 3)).heap.size := by rw [World.size_alloc]; omega
                  go_wp2_with (first | (refine (HHC.out _).mono ?_; rintro e8 w8 ⟨rfl, rfl⟩) | (refine (HLM.out _).mono ?_; rintro e8 w8 ⟨rfl, rfl⟩) | (at_builtin; refine wpList_append_grown (o := ⟨some 206, _, _, _, _, _⟩) (w := wg.alloc (Obj.cells #[.int .i64 rr.1] 3)) _ _ 38 rfl rfl Tryz.underlying38 HTI.out.1 HTI.out.2.1 HTI.out.2.2.1 HTI.out.2.2.2 rfl (by decide) rfl HOX.out rfl HSB.out (by intro u hu; rw [List.mem_singleton.1 hu]; rfl) hy1 hy2 hy3 ?_; intro v10 w10 hown10 hg10 hv10; have HO10 := Lib.hid hown10; have HG10 := Lib.hid hg10; clear hown10 hg10 hv10))
                  go_roundg (p.code.length - k)
                  case measure => omega
                  case rel =>
                    have hkb10 := HKB5.out.trans ((KB.of_below HBB.out).trans (KB.of_grown (S := fun b => b = gv ∨ b = gc ∨ wc.heap.size ≤ b) HG10.out (fun b _ q => .inr (.inr ((HOX.out.lt b q).1)))))
                    have hnb : ∀ b, b < wc.heap.size → b < wg.heap.size → w10.heap[b]? = wg.heap[b]? := fun b h1 h2 => (HG10.out.block b (Nat.lt_of_lt_of_le h2 HBB.out.size) (fun q => by have := (HOX.out.lt b q.symm).1; omega)).trans (HBB.out.block b h2)
                    refine HNX.out _ _ ?_ ?_ hkb10
                    · rw [HEX.out]
                      have h := HO10.out
                      skip
                      simpa using h
                    · rw [HEX.out]
                      exact HMM5.out.keep (hnb gv (by omega) (by omega)) (hnb gc (by omega) (by omega))
              · have hq2 : (opnP lop == 2) = true := by rw [hop]; decide
                obtain ⟨x1, rfl⟩ := len_one (l := A1') (by have h := HAL.out; rw [List.length_cons] at h; have h2 := HN.out; rw [hop] at h2; have h3 : (2 : Int).toNat = 2 := rfl; omega)
                obtain ⟨b8, o8, x', hA8, hSb8, hx8, z1⟩ := iaAt HA17.out (show 1 < [x0, x1].length from Nat.lt_succ_self _)
                injection hA8 with hA8
                injection hA8 with hA8a hA8b
                subst hA8a
                subst hA8b
                have hxx : x1 = x' := Option.some.inj (show some x1 = some x' from hx8)
                subst hxx
                have hj1 : (1 : Int) < ([x0, x1].length : Int) := by show (1 : Int) < ((2 : Nat) : Int); omega
                clear hop hx8 hSb8
                obtain ⟨rr, hrr⟩ : ∃ rr, cellR lop ln ⟨ton, tn⟩ (x0 == 1) (x1 == 1) = rr := ⟨_, rfl⟩
                have hce := fun W => HCE.out (x0 == 1) (x1 == 1) W
                simp only [hrr] at hce
                have HC1 := Lib.hid hce
                have hex2 : exP p inp s ⟨lop, (u : Int)⟩ = ⟨rst ++ [rr.1], s.vals, s.cells.set u rr.2⟩ := by rw [← hrr]; exact HEX.out
                clear HEX
                have HEX := Lib.hid hex2
                clear hce hrr hex2 HCE
                go_upto_region 33 with (refine (HHD.out _).mono ?_; rintro e8 w8 ⟨rfl, rfl⟩)
                go_cut [19, 20] (fun v19 v20 wf => ClR we rr v19 v20 wf)
                case first =>
                  go_region_held3 (fun w' => w'.cell? ⟨wx.heap.size, 0, Option.none⟩ = some (.int .i64 lop) ∧ w'.cell? ⟨wx.heap.size, 1, Option.none⟩ = some (.int .i64 (u : Int)) ∧ w'.cell? ⟨w.heap.size, 2, Option.none⟩ = some (.slice (some ⟨b', o', Option.none⟩) p.cells.length k3) ∧ w'.cell? ⟨b', o' + u * 2 + 1, Option.none⟩ = some (.int .i64 ln) ∧ w'.cell? ⟨gm, 1, Option.none⟩ = some (.slice (some ⟨gc, 0, Option.none⟩) m.cells.length cc) ∧ w'.cell? ⟨gc, u * 2, Option.none⟩ = some (.bool ton) ∧ w'.cell? ⟨gc, u * 2 + 1, Option.none⟩ = some (.int .i64 tn) ∧ w'.cell? ⟨b7, o7, Option.none⟩ = some (.int .i64 x0)) (first | exact HKX.out _ hbe12 | exact HKX.out _ (below_drew hbe12) | exact HKX.out _ ((hbe12).alloc (hbe12).size _) | exact HKX.out _ (below_drew ((hbe12).alloc (hbe12).size _)) | exact HKX.out _ (Below.refl we.heap.size we) | exact HKX.out _ (below_drew (Below.refl we.heap.size we)) | exact HKX.out _ (((Below.refl we.heap.size we)).alloc ((Below.refl we.heap.size we)).size _) | exact HKX.out _ (below_drew (((Below.refl we.heap.size we)).alloc ((Below.refl we.heap.size we)).size _)) | exact HKX.out _ (st_back hbe12 (Nat.le_refl _) _ _) | exact HKX.out _ (st_back (below_drew hbe12) (Nat.le_refl _) _ _) | exact HKX.out _ (below_drew (st_back hbe12 (Nat.le_refl _) _ _))) ((go_at_call 33; refine (HC1.out _).mono ?_; rintro e w12 ⟨rfl, hb12⟩; (first | have hbe12 := below_two (Below.refl we.heap.size we) hb12 (Below.refl we.heap.size we).size | have hbe12 := below_two (((Below.refl we.heap.size we)).alloc ((Below.refl we.heap.size we)).size _) hb12 (((Below.refl we.heap.size we)).alloc ((Below.refl we.heap.size we)).size _).size | have hbe12 := below_two (below_drew (Below.refl we.heap.size we)) hb12 (below_drew (Below.refl we.heap.size we)).size | have hbe12 := below_two (below_drew (((Below.refl we.heap.size we)).alloc ((Below.refl we.heap.size we)).size _)) hb12 (below_drew (((Below.refl we.heap.size we)).alloc ((Below.refl we.heap.size we)).size _)).size); (first | (have hgm6 : w12.heap[we.heap.size]? = some (Obj.cells #[.bool false, .int .i64 0] 83) := (hb12.block we.heap.size (by (try simp only [hpz]); omega)).trans (by exact heap_alloc_new we _); obtain ⟨c0, c1, c2, c3, c4⟩ := cs_cells hgm6) | skip)))
                  all_goals
                    go_wp2
                    go_meet
                    first
                      | exact cl_A hbe12
                      | exact (cl_A hbe12).drew
                      | exact cl_B hbe12 hgm6
                      | exact (cl_B hbe12 hgm6).drew
                      | exact cl_B (below_drew hbe12) hgm6
                case rest =>
                  rename World => wf
                  obtain ⟨bx, rfl, rfl, hbx, c0, c1, hbf⟩ := hcut
                  obtain ⟨-, i1', -, -, g1', -, -, -⟩ := HUW.out wf (fun b q => hbf.block b q)
                  have hsf := hbf.size
                  have HO14 := own_below HO13.out hbf (Nat.le_refl _)
                  have HKB4 := HKB2.out.trans (KB.of_below hbf)
                  have HMM4 := HMM3.out.keep (hbf.block gv HMM3.out.va.lt) (hbf.block gc HMM3.out.ce.lt)
                  obtain ⟨e0, e1, e2, e3⟩ := HMM4.ce.get HTT.out
                  dsimp only at e0 e1
                  have hca := (HMM4.ce.setOn HTT.out rr.2.on).setN (set_at HTT.out _) rr.2.n
                  rw [set_set] at hca
                  have HMM5 := Lib.hid (show MemW ((wf.setCell ⟨gc, u * 2, Option.none⟩ (.bool rr.2.on)).setCell ⟨gc, u * 2 + 1, Option.none⟩ (.int .i64 rr.2.n)) w4.heap.size gv cv gc cc p s.vals (s.cells.set u rr.2) from ⟨HMM4.va.keep ((hp_set _ _ _ HMM4.ne).trans (hp_set _ _ _ HMM4.ne)), hca, HMM4.ne⟩)
                  have HO15 := Lib.hid (show ((wf.setCell ⟨gc, u * 2, Option.none⟩ (.bool rr.2.on)).setCell ⟨gc, u * 2 + 1, Option.none⟩ (.int .i64 rr.2.n)).ownsRow wc.heap.size 3 1 (.slice A13 rst.length c13) rst.length (rst.map (Value.int .i64)) from own_heap HO14 (fun b q _ => by
                    have h := (HO14.lt b q).1
                    exact (hp_set _ _ _ (by omega)).trans (hp_set _ _ _ (by omega))))
                  have HKB5 := Lib.hid (show KB (fun b => b = gv ∨ b = gc ∨ wc.heap.size ≤ b) wc ((wf.setCell ⟨gc, u * 2, Option.none⟩ (.bool rr.2.on)).setCell ⟨gc, u * 2 + 1, Option.none⟩ (.int .i64 rr.2.n)) from (HKB4.trans (KB.of_grown (grown_set wf gc _ _) (fun b _ q => by injection q with q; exact .inr (.inl q.symm)))).trans (KB.of_grown (grown_set _ gc _ _) (fun b _ q => by injection q with q; exact .inr (.inl q.symm))))
                  have hlgc' : gc < wf.heap.size := by omega
                  have hlgm' : gm < wf.heap.size := by omega
                  have hlxi' : wx.heap.size < wf.heap.size := by omega
                  have hl5 : wc.heap.size ≤ ((wf.setCell ⟨gc, u * 2, Option.none⟩ (.bool rr.2.on)).setCell ⟨gc, u * 2 + 1, Option.none⟩ (.int .i64 rr.2.n)).heap.size := by simp only [World.size_setCell]; omega
                  have hgv5 : gv < ((wf.setCell ⟨gc, u * 2, Option.none⟩ (.bool rr.2.on)).setCell ⟨gc, u * 2 + 1, Option.none⟩ (.int .i64 rr.2.n)).heap.size := by simp only [World.size_setCell]; omega
                  have hgc5 : gc < ((wf.setCell ⟨gc, u * 2, Option.none⟩ (.bool rr.2.on)).setCell ⟨gc, u * 2 + 1, Option.none⟩ (.int .i64 rr.2.n)).heap.size := by simp only [World.size_setCell]; omega
                  clear hca HO14 HKB4 HMM4 HC1 hbf
                  clear i0 i1 q2 g1 t0' t1' z0 y0 y1
                  go_upto_region 35 with fail
                  generalize (wf.setCell ⟨gc, u * 2, Option.none⟩ (.bool rr.2.on)).setCell ⟨gc, u * 2 + 1, Option.none⟩ (.int .i64 rr.2.n) = wg at *
                  have HOX := Lib.hid (HO15.out.alloc (Obj.cells #[.int .i64 rr.1] 3))
                  have HBB := Lib.hid (box_below wg (Obj.cells #[.int .i64 rr.1] 3))
                  have HBB2 := Lib.hid (HBB.out.mono (show wc.heap.size ≤ wg.heap.size by omega))
                  have HSB := Lib.hid (src_box wg [.int .i64 rr.1] 3 1 1 rfl)
                  have hy1 : rst.length + 1 ≤ maxLen := by unfold maxLen; omega
                  have hy2 : (rst.length + 1) * 8 ≤ 140737488355328 := by omega
                  have hy3 : wc.heap.size ≤ (wg.alloc (Obj.cells #[.int .i64 rr.1] 3)).heap.size := by rw [World.size_alloc]; omega
                  go_wp2_with (first | (refine (HHC.out _).mono ?_; rintro e8 w8 ⟨rfl, rfl⟩) | (refine (HLM.out _).mono ?_; rintro e8 w8 ⟨rfl, rfl⟩) | (at_builtin; refine wpList_append_grown (o := ⟨some 206, _, _, _, _, _⟩) (w := wg.alloc (Obj.cells #[.int .i64 rr.1] 3)) _ _ 38 rfl rfl Tryz.underlying38 HTI.out.1 HTI.out.2.1 HTI.out.2.2.1 HTI.out.2.2.2 rfl (by decide) rfl HOX.out rfl HSB.out (by intro u hu; rw [List.mem_singleton.1 hu]; rfl) hy1 hy2 hy3 ?_; intro v10 w10 hown10 hg10 hv10; have HO10 := Lib.hid hown10; have HG10 := Lib.hid hg10; clear hown10 hg10 hv10))
                  go_roundg (p.code.length - k)
                  case measure => omega
                  case rel =>
                    have hkb10 := HKB5.out.trans ((KB.of_below HBB.out).trans (KB.of_grown (S := fun b => b = gv ∨ b = gc ∨ wc.heap.size ≤ b) HG10.out (fun b _ q => .inr (.inr ((HOX.out.lt b q).1)))))
                    have hnb : ∀ b, b < wc.heap.size → b < wg.heap.size → w10.heap[b]? = wg.heap[b]? := fun b h1 h2 => (HG10.out.block b (Nat.lt_of_lt_of_le h2 HBB.out.size) (fun q => by have := (HOX.out.lt b q.symm).1; omega)).trans (HBB.out.block b h2)
                    refine HNX.out _ _ ?_ ?_ hkb10
                    · rw [HEX.out]
                      have h := HO10.out
                      skip
                      simpa using h
                    · rw [HEX.out]
                      exact HMM5.out.keep (hnb gv (by omega) (by omega)) (hnb gc (by omega) (by omega))
          · as_aux_lemma =>
              dsimp only at h4
              have hex := ex_pla p inp s (c := ⟨op, a⟩) h4
              obtain ⟨ha1, ha2, -⟩ := pla_args HST.out.1 HST.out.2 h4
              have ha16 := pla_if HST.out.1 HST.out.2 (c := ⟨op, a⟩)
              dsimp only at hex ha1 ha16
              rw [HARG.out, HRST.out] at hex
              rw [HARG.out] at ha1 ha2 ha16
              obtain ⟨z, hz⟩ : ∃ z, plainP op args = z := ⟨_, rfl⟩
              have hpl := rplain_any A17 c17 we h4 ha1 ha2 ha16 HA17.out
              rw [hz] at hex hpl
              have HEX := Lib.hid hex
              have HPL := Lib.hid hpl
              have hkp : keptB op = false := by unfold keptB; simp; omega
              have hhc := fun W => rhas_any op W
              simp only [hkp] at hhc
              have HHD := Lib.hid hhc
              obtain ⟨h4a, h4b⟩ := h4
              have b1 : (op == 1) = false := by simp; omega
              have b2 : (op == 2) = false := by simp; omega
              have b30 : (op == 30) = false := by simp; omega
              have b31 : (op == 31) = false := by simp; omega
              have b32 : (op == 32) = false := by simp; omega
              clear hex ha1 ha2 ha16 hkp hhc hz hpl HHC
              go_wp2_with ((refine (HHD.out _).mono ?_; rintro e8 w8 ⟨rfl, rfl⟩))
              refine HPL.out.mono ?_
              rintro e w12 ⟨rfl, hb12⟩
              have HO12 := Lib.hid (own_below HO13.out hb12 (Nat.le_refl _))
              have HKB12 := Lib.hid (HKB2.out.trans (KB.of_below hb12))
              have HMM12 := Lib.hid (HMM3.out.keep (hb12.block gv HMM3.out.va.lt) (hb12.block gc HMM3.out.ce.lt))
              have hs12 := hb12.size
              have hl12 : wc.heap.size ≤ w12.heap.size := by omega
              clear hb12
              have HOX := Lib.hid (HO12.out.alloc (Obj.cells #[.int .i64 z] 3))
              have HBB := Lib.hid (box_below w12 (Obj.cells #[.int .i64 z] 3))
              have HBB2 := Lib.hid (HBB.out.mono (show wc.heap.size ≤ w12.heap.size by omega))
              have HSB := Lib.hid (src_box w12 [.int .i64 z] 3 1 1 rfl)
              have hy1 : rst.length + 1 ≤ maxLen := by unfold maxLen; omega
              have hy2 : (rst.length + 1) * 8 ≤ 140737488355328 := by omega
              have hy3 : wc.heap.size ≤ (w12.alloc (Obj.cells #[.int .i64 z] 3)).heap.size := by rw [World.size_alloc]; omega
              go_wp2_with (first | (refine (HHC.out _).mono ?_; rintro e8 w8 ⟨rfl, rfl⟩) | (refine (HLM.out _).mono ?_; rintro e8 w8 ⟨rfl, rfl⟩) | (at_builtin; refine wpList_append_grown (o := ⟨some 110, _, _, _, _, _⟩) (w := w12.alloc (Obj.cells #[.int .i64 z] 3)) _ _ 38 rfl rfl Tryz.underlying38 HTI.out.1 HTI.out.2.1 HTI.out.2.2.1 HTI.out.2.2.2 rfl (by decide) rfl HOX.out rfl HSB.out (by intro u hu; rw [List.mem_singleton.1 hu]; rfl) hy1 hy2 hy3 ?_; intro v10 w10 hown10 hg10 hv10; have HO10 := Lib.hid hown10; have HG10 := Lib.hid hg10; clear hown10 hg10 hv10))
              go_roundg (p.code.length - k)
              case measure => omega
              case rel =>
                have hkb10 := HKB12.out.trans ((KB.of_below HBB.out).trans (KB.of_grown (S := fun b => b = gv ∨ b = gc ∨ wc.heap.size ≤ b) HG10.out (fun b _ q => .inr (.inr ((HOX.out.lt b q).1)))))
                have hnb : ∀ b, b < wc.heap.size → b < w12.heap.size → w10.heap[b]? = w12.heap[b]? := fun b h1 h2 => (HG10.out.block b (Nat.lt_of_lt_of_le h2 HBB.out.size) (fun q => by have := (HOX.out.lt b q.symm).1; omega)).trans (HBB.out.block b h2)
                refine HNX.out _ _ ?_ ?_ hkb10
                · rw [HEX.out]
                  have h := HO10.out
                  skip
                  simpa using h
                · rw [HEX.out]
                  exact HMM12.out.keep (hnb gv (by omega) (by omega)) (hnb gc (by omega) (by omega))
end Go.Proofs.YtcikenlflcofbaaGreatDoor
