/-
  scan.Fits and scan.Step.
-/
import Derived.Test.YtcikenlflcofbaaGreatDoorFit
namespace Go.Proofs.YtcikenlflcofbaaGreatDoor
open Go.RowKit

theorem run_copy_wide {P : Program} (w : World) (dT sT ty elem : TypeId) (k g dLen dCap : Nat) (a : Addr) (sLen sCap : Nat) (cur : Array Value) (t : TypeId) (cs : List Value) (m : Nat)
    (hu : P.underlying dT = some (.slice elem)) (hs : (P.info? elem).map (·.size) = some k)
    (hg : w.heap[g]? = some (.cells cur t (0, 0))) (hm : m = Nat.min sLen dLen) (hn : cs.length = m * k)
    (hsrc : ∀ j v, cs[j]? = some v → w.cell? (a.add j) = some v) (hfit : cs.length ≤ cur.size) (h1 : ∀ v ∈ cs, v.oneCell' = true) :
    (Builtin.copy_ #[dT, sT] ty #[.slice (some ⟨g, 0, none⟩) dLen dCap, .slice (some a) sLen sCap]).run P w =
      .ok (goInt m) (w.setRow g (cur.toList.take 0 ++ cs ++ cur.toList.drop (0 + cs.length)).toArray) := by
  have hl := run_loadCells_list (P := P) w a cs hsrc
  have hst := run_storeCells_at P g 0 t cs 0 cur w hg (by simpa using hfit) h1
  cases hq : P.info? elem with
  | none => simp [hq] at hs
  | some i =>
    have hi : i.size = k := by simpa [hq] using hs
    simp only [hn] at hl
    simp [Builtin.copy_, run_underlying hu, Builtin.lenOf, Builtin.firstCells, sizeOf, typeInfo, hq, hi, ← hm, hl, hst]
theorem run_copy_wnone {P : Program} (w : World) (dT sT ty elem : TypeId) (k : Nat) (d a : Option Addr) (dLen dCap sLen sCap : Nat) (hu : P.underlying dT = some (.slice elem)) (hs : (P.info? elem).map (·.size) = some k) (hn : Nat.min sLen dLen = 0) :
    (Builtin.copy_ #[dT, sT] ty #[.slice d dLen dCap, .slice a sLen sCap]).run P w = .ok (goInt 0) w := by
  cases hq : P.info? elem with
  | none => simp [hq] at hs
  | some i =>
    have hl : ∀ (x : Addr), (loadCells x 0).run P w = .ok #[] w := fun x => by simpa using run_loadCells_list (P := P) w x [] (by simp)
    cases d <;> cases a <;> simp [Builtin.copy_, run_underlying hu, Builtin.lenOf, Builtin.firstCells, sizeOf, typeInfo, hq, hn, storeCells, hl]
theorem kb_setRow (w : World) (g : Nat) (cs : Array Value) : KB (fun b => b = g) w (w.setRow g cs) :=
  ⟨rfl, rfl, rfl, by simp [World.setRow], fun k _ hn => setRow_other w g k cs hn⟩
/-- copy over a whole block. -/
theorem wpList_copy_kb {P : Program} {w : World} {ops : Array Oper} {rest : List Oper} {o : Oper} {a : Act} {Q : Exit → Act → World → Prop} (hgd : o.guard = none) (d s : Operand) (dT sT : TypeId)
    (ho : o.op = .call { callee := .builtin .copy, args := #[d, s], argTypes := #[dT, sT] }) (elem : TypeId) (k : Nat) (hu : P.underlying dT = some (.slice elem)) (hsz : (P.info? elem).map (·.size) = some k)
    (dp sp : Option Addr) (dLen dCap sLen sCap : Nat) (hd : a.eval d = .slice dp dLen dCap) (hs : a.eval s = .slice sp sLen sCap)
    (g : Nat) (cur : Array Value) (t : TypeId) (hg : w.heap[g]? = some (.cells cur t (0, 0))) (cs : List Value) (m : Nat) (hm : m = Nat.min sLen dLen) (hn : cs.length = m * k)
    (hpos : 0 < m → dp = some ⟨g, 0, none⟩ ∧ ∃ ad, sp = some ad ∧ ∀ j v, cs[j]? = some v → w.cell? (ad.add j) = some v)
    (hfull : cs.length = cur.size) (h1 : ∀ v ∈ cs, v.oneCell' = true)
    (h : ∀ w', Hid (w'.heap[g]? = some (.cells cs.toArray t (0, 0))) → KB (fun b => b = g) w w' → wpList P ops Q rest (a.put o.dst (goInt m)) w') :
    wpList P ops Q (o :: rest) a w := by
  refine wpList_plain hgd fun K hK => ?_
  unfold Oper.wp
  by_cases h0 : m = 0
  · subst h0
    have hcs : cs = [] := List.eq_nil_of_length_eq_zero (by omega)
    subst hcs
    have hcur : cur = #[] := Array.eq_empty_of_size_eq_zero (by simpa using hfull.symm)
    subst hcur
    have hrun := run_copy_wnone (P := P) w dT sT o.type elem k dp sp dLen dCap sLen sCap hu hsz (by rw [← hm])
    simp [execOp, ho, resolve, invoke, builtin, hd, hs, hrun, Result.andThen]
    exact hK _ _ (h w (show _ = _ by simpa using hg) (KB.refl _ _))
  · obtain ⟨rfl, ad, rfl, hsrc⟩ := hpos (by omega)
    have hrun := run_copy_wide (P := P) w dT sT o.type elem k g dLen dCap ad sLen sCap cur t cs m hu hsz hg hm hn hsrc (by omega) h1
    have hx : cur.toList.take 0 ++ cs ++ cur.toList.drop (0 + cs.length) = cs := by
      rw [List.take_zero, List.nil_append, List.drop_eq_nil_of_le (by rw [Array.length_toList]; omega), List.append_nil]
    rw [hx] at hrun
    simp only [execOp, ho, resolve, invoke, builtin]
    simp [hd, hs, hrun, Result.andThen]
    exact hK _ _ (h _ (show _ = _ from setRow_heap w g _ _ t _ hg) (kb_setRow w g _))
theorem ia_src {w : World} {S : Nat → Prop} {A : Option Addr} {n : Nat} {l : List Int} (h : Rw IaC 1 w S A n l) (hn : 0 < n) : ∃ ad, A = some ad ∧ ∀ j u, (l.map (Value.int .i64))[j]? = some u → w.cell? (ad.add j) = some u := by
  obtain ⟨b, o, e, -, hr⟩ := h.2 hn
  refine ⟨_, e, fun j u hu => ?_⟩
  rw [Addr.add_mid]
  rw [List.getElem?_map] at hu
  obtain ⟨z, hz, rfl⟩ := Option.map_eq_some_iff.1 hu
  obtain ⟨cs, -, rfl, hat⟩ := hr j z hz
  simpa using hat 0 _ rfl
theorem cs_src {w : World} {S : Nat → Prop} {A : Option Addr} {n : Nat} {l : List Cs} (h : Rw CsC 2 w S A n l) (hn : 0 < n) : ∃ ad, A = some ad ∧ ∀ j u, (l.flatMap csL)[j]? = some u → w.cell? (ad.add j) = some u := by
  obtain ⟨b, o, e, -, hr⟩ := h.2 hn
  refine ⟨_, e, fun j u hu => ?_⟩
  rw [Addr.add_mid]
  have key : ∀ (l : List Cs) (o : Nat), (∀ k x, l[k]? = some x → ∃ cs, cs.length = 2 ∧ CsC w S cs x ∧ w.rangeAt b (o + k * 2) cs) → ∀ j u, (l.flatMap csL)[j]? = some u → w.cell? ⟨b, o + j, Option.none⟩ = some u := by
    intro l
    induction l with
    | nil => intro o _ j u hu; simp at hu
    | cons x l ih =>
      intro o hk j u hu
      obtain ⟨cs, -, rfl, hat⟩ := hk 0 x rfl
      match j, hu with
      | 0, hu => simp [csL] at hu; subst hu; simpa using hat 0 _ rfl
      | 1, hu => simp [csL] at hu; subst hu; simpa using hat 1 _ rfl
      | j + 2, hu =>
        have := ih (o + 2) (fun k y hy => by
          obtain ⟨cs, a1, a2, a3⟩ := hk (k + 1) y hy
          exact ⟨cs, a1, a2, by rw [show o + 2 + k * 2 = o + (k + 1) * 2 by omega]; exact a3⟩) j u (by simpa [csL] using hu)
        rw [show o + (j + 2) = o + 2 + j by omega]
        exact this
  exact key l o hr j u hu

set_option maxRecDepth 100000 in
set_option maxHeartbeats 8000000 in
theorem Fits_any {w : World} {p : Pg} {l : Pl} {m : Mm} {ml : Ml} (hpg : PgI w (Old w) p l) (hm : MmI w (Old w) m ml) :
    Calls Tryz.prog 16 #[pgV p l, mmV m ml] w (RetB (decide ((verP p).2.2 = 0) && fitsB p m) w) := by
  obtain ⟨B1, k1, B2, k2, B3, k3, B4, k4⟩ := l
  obtain ⟨D1, d1, D2, d2⟩ := ml
  have hb1 := box_below w (Obj.cells (pgC p ⟨B1, k1, B2, k2, B3, k3, B4, k4⟩) 35)
  have hb2 := box_below (w.alloc (Obj.cells (pgC p ⟨B1, k1, B2, k2, B3, k3, B4, k4⟩) 35)) (Obj.cells (mmC m ⟨D1, d1, D2, d2⟩) 53)
  have hb0 := below_two hb1 hb2 hb1.size
  have HC := Lib.hid (Verify_any (hpg.below hb0))
  have hx1 := (hb2.block w.heap.size (by rw [World.size_alloc]; omega)).trans (heap_alloc_new w (Obj.cells (pgC p ⟨B1, k1, B2, k2, B3, k3, B4, k4⟩) 35))
  have hx2 := heap_alloc_new (w.alloc (Obj.cells (pgC p ⟨B1, k1, B2, k2, B3, k3, B4, k4⟩) 35)) (Obj.cells (mmC m ⟨D1, d1, D2, d2⟩) 53)
  rw [World.size_alloc] at hx2
  have hs2 : ((w.alloc (Obj.cells (pgC p ⟨B1, k1, B2, k2, B3, k3, B4, k4⟩) 35)).alloc (Obj.cells (mmC m ⟨D1, d1, D2, d2⟩) 53)).heap.size = w.heap.size + 2 := by simp only [World.size_alloc]
  obtain ⟨va, vm, ve, hvp⟩ : ∃ a b c, verP p = (a, b, c) := ⟨_, _, _, rfl⟩
  have HVP := Lib.hid hvp
  have HPG := Lib.hid hpg
  have HMM := Lib.hid hm
  have HB := Lib.hid hb0
  have HX1 := Lib.hid hx1
  have HX2 := Lib.hid hx2
  have HS2 := Lib.hid hs2
  rw [hvp] at HC
  rw [hvp]
  obtain ⟨fb, hfb⟩ : ∃ fb, fitsB p m = fb := ⟨_, rfl⟩
  rw [hfb]
  have HFB := Lib.hid hfb
  clear hb1 hb2 hb0 hx1 hx2 hs2 hvp hpg hm hfb
  go_enter Tryz.func16, Tryz.ntmps16
  go_wp2_with fail
  refine HC.out.mono ?_
  rintro e w1 ⟨rfl, hb3⟩
  dsimp only
  generalize (w.alloc (Obj.cells (pgC p ⟨B1, k1, B2, k2, B3, k3, B4, k4⟩) 35)).alloc (Obj.cells (mmC m ⟨D1, d1, D2, d2⟩) 53) = W2 at *
  have hs2 := HS2.out
  have hs3 := hb3.size
  have hx1 := (hb3.block w.heap.size (by omega)).trans HX1.out
  have hx2 := (hb3.block (w.heap.size + 1) (by omega)).trans HX2.out
  have q0 : w1.cell? ⟨w.heap.size, 0, Option.none⟩ = some (.slice B1 p.ins.length k1) := by simp [World.cell?, hx1]
  have q1 : w1.cell? ⟨w.heap.size, 1, Option.none⟩ = some (.slice B2 p.rls.length k2) := by simp [World.cell?, hx1]
  have q2 : w1.cell? ⟨w.heap.size, 2, Option.none⟩ = some (.slice B3 p.cells.length k3) := by simp [World.cell?, hx1]
  have q3 : w1.cell? ⟨w.heap.size, 3, Option.none⟩ = some (.slice B4 p.code.length k4) := by simp [World.cell?, hx1]
  have t0 : w1.cell? ⟨w.heap.size + 1, 0, Option.none⟩ = some (.slice D1 m.vals.length d1) := by simp [World.cell?, hx2]
  have t1 : w1.cell? ⟨w.heap.size + 1, 1, Option.none⟩ = some (.slice D2 m.cells.length d2) := by simp [World.cell?, hx2]
  have hbw := HB.out.trans (hb3.mono (by omega))
  have HBW := Lib.hid hbw
  have hl1 : w.heap.size + 1 < w1.heap.size := by omega
  have hl0 : w.heap.size < w1.heap.size := by omega
  clear hs2 hs3 hx1 hx2 hb3
  by_cases hve : ve = 0
  case neg =>
    have hvb : (ve == 0) = false := by simpa using hve
    have HE := Lib.hid (show (false && fb) = (decide (ve = 0) && fb) by rw [decide_eq_false hve])
    clear hve hbw
    go_wp2
    go_ret
    exact ⟨ret_bool HE.out, HBW.out⟩
  subst hve
  have HF := Lib.hid (fits_any (HPG.out.below hbw) (fun b q => q) (HMM.out.below hbw) (fun j c h => ver_cells (by rw [HVP.out]) h))
  rw [HFB.out] at HF
  clear hbw
  go_wp2_with fail
  refine HF.out.mono ?_
  rintro e w2 ⟨rfl, hb4⟩
  have HB4 := Lib.hid (below_two HBW.out hb4 HBW.out.size)
  clear hb4
  go_wp2
  go_ret
  exact ⟨by first | rfl | (cases fb <;> rfl), HB4.out⟩
end Go.Proofs.YtcikenlflcofbaaGreatDoor
