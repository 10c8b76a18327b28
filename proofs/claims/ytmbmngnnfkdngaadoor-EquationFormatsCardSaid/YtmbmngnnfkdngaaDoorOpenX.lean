/-
  An expression that the form reads lies in memory as such in the words of the other texts.
-/
import Derived.Test.YtmbmngnnfkdngaaDoorOpen
import Derived.Test.YtmbmngnnfkdngaaDoorLaws
namespace Go.Proofs.YtmbmngnnfkdngaaDoor
open Go.RowKit Go.Deep

theorem cellsInt : Tryd.prog.cellsOf 3 = 1 := by kernel_rfl
theorem cellsStr : Tryd.prog.cellsOf 9 = 1 := by kernel_rfl
theorem cellsExpr : Tryd.prog.cellsOf 24 = 4 := by kernel_rfl
theorem cellsExprs : Tryd.prog.cellsOf 22 = 1 := by kernel_rfl
theorem four_of {l : List Value} (h : l.length = 4) : ∃ a b c d, l = [a, b, c, d] := by
  match l, h with
  | [a, b, c, d], _ => exact ⟨a, b, c, d, rfl⟩

section
variable {H : Type} {enc : TypeId × Value → H} {w : World} {base : Nat} {spare : Nat → Bool} {held : Bool}
/-- One field of one cell, and the fuel that is left. -/
theorem field_fuel {t : TypeId} {fs : Array Field} {fuel : Nat} {cs : List Value} {x : DataW H × List MemPlace} (ht : Tryd.prog.underlying t = some (.struct fs)) (h : DataW.trod enc Tryd.prog w base spare held (fuel + 1) t cs = some x)
    (i : Nat) {f : Field} (hf : fs[i]? = some f) (h1 : Tryd.prog.cellsOf f.type = 1) (hoff : f.offset < Tryd.prog.cellsOf t) :
    ∃ v y, cs[f.offset]? = some v ∧ DataW.trod enc Tryd.prog w base spare held fuel f.type [v] = some y := by
  obtain ⟨xs, n, hn, _, hlen, hxl, hg⟩ := DataW.trod_struct ht h
  obtain rfl : fuel = n := by omega
  have hif : i < fs.size := (Array.getElem?_eq_some_iff.1 hf).1
  have hgi := hg i f hf
  rw [h1] at hgi
  have hl : f.offset < cs.length := by omega
  have hone : (cs.drop f.offset).take 1 = [cs[f.offset]'hl] := by
    rw [List.drop_eq_getElem_cons hl]; rfl
  rw [hone, List.getElem?_eq_getElem (by omega)] at hgi
  exact ⟨_, _, List.getElem?_eq_getElem hl, hgi⟩
theorem expr_trodC : ∀ (fuel : Nat) (cs : List Value) (x : DataW H × List MemPlace), DataW.trod enc Tryd.prog w base spare held fuel 24 cs = some x → ∃ y, ExC fuel w (fun b => b < w.heap.size) cs y := by
  intro fuel
  induction fuel using Nat.strongRecOn with
  | _ fuel ih =>
  intro cs x h
  cases fuel with
  | zero => simp [DataW.trod] at h
  | succ fuel =>
    obtain ⟨a, b, c, d, rfl⟩ := four_of ((trod_len Tryd.underlying24 h).trans cellsExpr)
    obtain ⟨v0, y0, e0, t0⟩ := field_fuel Tryd.underlying24 h 0 rfl cellsInt (by rw [cellsExpr]; decide)
    obtain ⟨v1, y1, e1, t1⟩ := field_fuel Tryd.underlying24 h 1 rfl cellsInt (by rw [cellsExpr]; decide)
    obtain ⟨v2, y2, e2, t2⟩ := field_fuel Tryd.underlying24 h 2 rfl cellsStr (by rw [cellsExpr]; decide)
    obtain ⟨v3, y3, e3, t3⟩ := field_fuel Tryd.underlying24 h 3 rfl cellsExprs (by rw [cellsExpr]; decide)
    cases e0; cases e1; cases e2; cases e3
    obtain ⟨op, p0, _, w0⟩ := DataW.trod_int Tryd.underlying3 t0
    obtain ⟨n, p1, _, w1⟩ := DataW.trod_int Tryd.underlying3 t1
    obtain ⟨s, p2, _, w2⟩ := DataW.trod_string Tryd.underlying9 t2
    cases p0; cases p1; cases p2
    obtain ⟨⟨nm⟩⟩ := s
    have hnm : nm.length ≤ maxLen := by simpa [ByteArray.size] using w2
    rcases DataW.trod_slice Tryd.underlying22 t3 with ⟨h0, _⟩ | ⟨ad, len, cap, elems, rest, m, hm, h0, _, hb, hl, hmx, hlen, hel, _, _⟩
    · cases h0
      exact ⟨.mk op n nm [], Option.none, 0, rfl, Nat.le_refl _, Nat.zero_le _, ⟨w0, w1, hnm⟩, Rw.nil⟩
    · cases h0
      subst hm
      have hper : ∀ i, i < len → ∃ z, ∃ ds, ds.length = 4 ∧ ExC m w (fun b => b < w.heap.size) ds z ∧ ∀ j v, ds[j]? = some v → w.cell? (ad.add (i * 4 + j)) = some v := by
        intro i hil
        have hi := hel i hil
        rw [cellsExpr, List.getElem?_eq_getElem (by omega)] at hi
        obtain ⟨ds, hds, htr⟩ := Option.bind_eq_some_iff.1 hi
        obtain ⟨_, hdl, hat⟩ := World.cells?_some hds
        obtain ⟨z, hz⟩ := ih m (by omega) ds _ htr
        refine ⟨z, ds, hdl, hz, fun j v hv => ?_⟩
        have hj : j < 4 := by have := (List.getElem?_eq_some_iff.1 hv).1; omega
        have := hat j hj
        rw [Go.Deep.add_add] at this
        rw [this, hv]
      obtain ⟨zs, hzl, hzp⟩ := list_of _ len hper
      refine ⟨.mk op n nm zs, some ad, cap, by rw [hzl], by omega, hmx, ⟨w0, w1, hnm⟩, rfl, fun hn => ?_⟩
      obtain ⟨ds0, hd0, _, hc0⟩ := hzp 0 (zs[0]'(by omega)) (List.getElem?_eq_getElem (by omega))
      have hcell0 := hc0 0 (ds0[0]'(by omega)) (List.getElem?_eq_getElem (by omega))
      have haz : ad.add (0 * 4 + 0) = ad := by simp [Addr.add]
      rw [haz] at hcell0
      have ha : ad = ⟨ad.block, ad.off, Option.none⟩ := by
        have := spot_none hcell0
        cases ad; simp_all
      have hblk : ad.block < w.heap.size := block_lt_of_cell hcell0
      refine ⟨ad.block, ad.off, congrArg some ha, hblk, fun k z hz => ?_⟩
      obtain ⟨ds, hdl, hR, hat⟩ := hzp k z hz
      refine ⟨ds, hdl, ExC.deeper _ _ _ _ _ hR, fun j v hv => ?_⟩
      have := hat j v hv
      rw [ha, Addr.add_mid] at this
      simpa [Nat.add_assoc] using this
theorem expr_trod {fuel : Nat} {cs : List Value} {x : DataW H × List MemPlace} (h : DataW.trod enc Tryd.prog w base spare held fuel 24 cs = some x) :
    ∃ op n nm A c ks, cs = [.int .i64 op, .int .i64 n, .string ⟨nm.toArray⟩, .slice A ks.length c] ∧ XI w op n nm A c ks := by
  obtain ⟨y, hy⟩ := expr_trodC fuel cs x h
  obtain ⟨op, n, nm, ks⟩ := y
  obtain ⟨A, c, e, h1, h2, h3, h4⟩ := ExV.form ⟨fuel, hy⟩
  exact ⟨op, n, nm, A, c, ks, e, h1, h2, h3, h4⟩
end
end Go.Proofs.YtmbmngnnfkdngaaDoor
