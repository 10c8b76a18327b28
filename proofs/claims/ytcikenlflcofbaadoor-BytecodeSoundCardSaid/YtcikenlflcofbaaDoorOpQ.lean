/-
  From the form's own reading of an argument ('DataW.trod') to the words of the Base text: structs field by field, slices as lists. No program is named here.
-/
import Derived.Test.YtcikenlflcofbaaDoorBase
import Derived.Test.YtcikenlflcofbaaDoorSaX
import Derived.Test.YtcikenlflcofbaaDoorTable
import Derived.Test.YtcikenlflcofbaaDoorRulW
namespace Go.Proofs.YtcikenlflcofbaaDoor
open Go.RowKit Go.Deep

section
variable {H : Type} {enc : TypeId × Value → H} {P : Program} {w : World} {base : Nat} {spare : Nat → Bool} {held : Bool}

/-- A list of what is there for each place below n. -/
theorem list_of {α : Type} (p : Nat → α → Prop) : ∀ n : Nat, (∀ i, i < n → ∃ y, p i y) → ∃ l : List α, l.length = n ∧ ∀ k y, l[k]? = some y → p k y
  | 0, _ => ⟨[], rfl, fun k y h => by simp at h⟩
  | n + 1, h => by
    obtain ⟨l, hl, hp⟩ := list_of p n fun i hi => h i (by omega)
    obtain ⟨y, hy⟩ := h n (by omega)
    refine ⟨l ++ [y], by simp [hl], fun k z hz => ?_⟩
    rcases Nat.lt_or_ge k n with hk | hk
    · rw [List.getElem?_append_left (by omega)] at hz; exact hp k z hz
    · have hk' : k = n := by
        have := (List.getElem?_eq_some_iff.1 hz).1
        simp at this; omega
      subst hk'
      rw [List.getElem?_append_right (by omega)] at hz
      simp [hl] at hz
      subst hz; exact hy

/-- An address with a cell is a plain one. -/
theorem spot_none {a : Addr} {v : Value} (h : w.cell? a = some v) : a.spot = Option.none := by
  unfold World.cell? at h
  split at h
  · split at h
    · cases h
    · rename_i hs
      cases hsp : a.spot with
      | none => rfl
      | some x => rw [hsp] at hs; simp at hs
  · cases h

theorem sliceOf_trod {α : Type} {R : World → Nat → List Value → α → Prop} {t e : TypeId} {size fuel : Nat} {cs : List Value} {x : DataW H × List MemPlace} (hpos : 0 < size) (ht : P.underlying t = some (.slice e)) (hC : P.cellsOf e = size)
    (hel : ∀ (n : Nat) (ds : List Value) (y : DataW H × List MemPlace), ds.length = size → DataW.trod enc P w base spare held n e ds = some y → ∃ z, R w w.heap.size ds z)
    (h : DataW.trod enc P w base spare held fuel t cs = some x) : ∃ zs, SliceOf R size w w.heap.size cs zs := by
  rcases open_slice ht h with ⟨rfl, _⟩ | ⟨a, len, cap, m, n, D, Pl, rfl, hb, hl, hm, hmm, hx, hi⟩
  · exact ⟨[], Option.none, 0, rfl, Nat.le_refl _, Nat.zero_le _, rfl, fun h => absurd h (Nat.not_lt_zero _)⟩
  · have hlm : len ≤ m := by rw [hmm]; split <;> omega
    have hper : ∀ i, i < len → ∃ z, ∃ ds, ds.length = size ∧ R w w.heap.size ds z ∧ ∀ j v, ds[j]? = some v → w.cell? (a.add (i * size + j)) = some v := by
      intro i hil
      obtain ⟨ds, hds, htr⟩ := hi i (by omega)
      rw [hC] at hds
      obtain ⟨_, hdl, hat⟩ := World.cells?_some hds
      obtain ⟨z, hz⟩ := hel n ds _ hdl htr
      refine ⟨z, ds, hdl, hz, fun j v hv => ?_⟩
      have hj : j < size := by have := (List.getElem?_eq_some_iff.1 hv).1; omega
      have := hat j hj
      rw [Go.Deep.add_add] at this
      rw [this, hv]
    obtain ⟨zs, hzl, hzp⟩ := list_of _ len hper
    refine ⟨zs, some a, cap, by rw [hzl], by omega, hm, rfl, fun hn => ?_⟩
    obtain ⟨ds0, hd0, _, hc0⟩ := hzp 0 (zs[0]'(by omega)) (List.getElem?_eq_getElem (by omega))
    have hcell0 := hc0 0 (ds0[0]'(by omega)) (List.getElem?_eq_getElem (by omega))
    have ha : a = ⟨a.block, a.off, Option.none⟩ := by
      have : a.add (0 * size + 0) = a := by simp [Addr.add]
      rw [this] at hcell0
      have := spot_none hcell0
      cases a; simp_all
    have hblk : a.block < w.heap.size := by
      have : a.add (0 * size + 0) = a := by simp [Addr.add]
      rw [this] at hcell0
      exact block_lt_of_cell hcell0
    refine ⟨a.block, a.off, congrArg some ha, hblk, fun k z hz => ?_⟩
    obtain ⟨ds, hdl, hR, hat⟩ := hzp k z hz
    refine ⟨ds, hdl, hR, fun j v hv => ?_⟩
    have := hat j v hv
    rw [ha, Addr.add_mid] at this
    simpa [Nat.add_assoc] using this

/-- One field of one cell. -/
theorem field_one {t : TypeId} {fs : Array Field} {fuel : Nat} {cs : List Value} {x : DataW H × List MemPlace} (ht : P.underlying t = some (.struct fs)) (h : DataW.trod enc P w base spare held fuel t cs = some x)
    (i : Nat) {f : Field} (hf : fs[i]? = some f) (h1 : P.cellsOf f.type = 1) (hoff : f.offset < P.cellsOf t) :
    ∃ n v y, cs[f.offset]? = some v ∧ DataW.trod enc P w base spare held n f.type [v] = some y := by
  obtain ⟨xs, n, _, _, hlen, hxl, hg⟩ := DataW.trod_struct ht h
  have hif : i < fs.size := (Array.getElem?_eq_some_iff.1 hf).1
  have hgi := hg i f hf
  rw [h1] at hgi
  have hl : f.offset < cs.length := by omega
  have hone : (cs.drop f.offset).take 1 = [cs[f.offset]'hl] := by
    rw [List.drop_eq_getElem_cons hl]; rfl
  rw [hone, List.getElem?_eq_getElem (by omega)] at hgi
  exact ⟨n, _, _, List.getElem?_eq_getElem hl, hgi⟩
theorem trod_len {t : TypeId} {fs : Array Field} {fuel : Nat} {cs : List Value} {x : DataW H × List MemPlace} (ht : P.underlying t = some (.struct fs)) (h : DataW.trod enc P w base spare held fuel t cs = some x) : cs.length = P.cellsOf t := by
  obtain ⟨xs, n, _, _, hlen, _⟩ := DataW.trod_struct ht h
  exact hlen

/-- The fields of a struct, and of the structs in it, tile its cells. -/
def tiles (P : Program) : Nat → TypeId → Bool
  | 0, _ => false
  | d + 1, t => match P.underlying t with
    | some (.struct fs) => ((fs.toList.flatMap fun f => (List.range (P.cellsOf f.type)).map (f.offset + ·)) == List.range (P.cellsOf t)) && fs.toList.all fun f => tiles P d f.type
    | some (.array n e) => (n * P.cellsOf e == P.cellsOf t) && tiles P d e
    | _ => true

theorem trod_one : ∀ (d : Nat) (t : TypeId) (fuel : Nat) (cs : List Value) (x : DataW H × List MemPlace), tiles P d t = true → DataW.trod enc P w base spare held fuel t cs = some x → ∀ v ∈ cs, v.oneCell' = true := by
  intro d
  induction d with
  | zero => intro t fuel cs x ht; simp [tiles] at ht
  | succ d ih =>
    intro t fuel cs x htl h v hv
    cases hu : P.underlying t with
    | none =>
      cases fuel with
      | zero => simp [DataW.trod] at h
      | succ n => unfold DataW.trod at h; rw [hu] at h; simp at h
    | some desc =>
      by_cases hs : ∃ fs, desc = .struct fs
      · obtain ⟨fs, rfl⟩ := hs
        simp only [tiles, hu, Bool.and_eq_true, beq_iff_eq, List.all_eq_true] at htl
        obtain ⟨xs, n, _, _, hlen, hxl, hg⟩ := DataW.trod_struct hu h
        obtain ⟨j, hj⟩ := List.getElem?_of_mem hv
        have hjl : j < P.cellsOf t := by have := (List.getElem?_eq_some_iff.1 hj).1; omega
        have hmem : j ∈ fs.toList.flatMap fun f => (List.range (P.cellsOf f.type)).map (f.offset + ·) := by rw [htl.1]; simpa using hjl
        obtain ⟨f, hf, hjf⟩ := List.mem_flatMap.1 hmem
        obtain ⟨i, hi, rfl⟩ := List.mem_map.1 hjf
        have hi' : i < P.cellsOf f.type := by simpa using hi
        obtain ⟨k, hk⟩ := List.getElem?_of_mem hf
        have hk' : fs[k]? = some f := by simpa using hk
        have hkl : k < fs.size := (Array.getElem?_eq_some_iff.1 hk').1
        have hgk := hg k f hk'
        rw [List.getElem?_eq_getElem (by omega)] at hgk
        refine ih f.type n _ _ (htl.2 f hf) hgk v ?_
        refine List.mem_of_getElem? (i := i) ?_
        rw [List.getElem?_take_of_lt hi', List.getElem?_drop]
        exact hj
      · by_cases ha : ∃ n e, desc = .array n e
        · obtain ⟨n, e, rfl⟩ := ha
          simp only [tiles, hu, Bool.and_eq_true, beq_iff_eq] at htl
          cases fuel with
          | zero => simp [DataW.trod] at h
          | succ fu =>
            unfold DataW.trod at h
            rw [hu] at h
            simp only at h
            split at h
            · rename_i hcl
              cases hm : (List.range n).mapM fun i => DataW.trod enc P w base spare held fu e ((cs.drop (i * P.cellsOf e)).take (P.cellsOf e)) with
              | none => rw [hm] at h; simp at h
              | some ys =>
                obtain ⟨hyl, hyp⟩ := some_mapM _ _ _ hm
                obtain ⟨j, hj⟩ := List.getElem?_of_mem hv
                have hjl : j < n * P.cellsOf e := by have := (List.getElem?_eq_some_iff.1 hj).1; omega
                have hc0 : 0 < P.cellsOf e := by
                  rcases Nat.eq_zero_or_pos (P.cellsOf e) with h0 | h0
                  · rw [h0] at hjl; simp at hjl
                  · exact h0
                have hq : j / P.cellsOf e < n := Nat.div_lt_of_lt_mul (by rw [Nat.mul_comm]; exact hjl)
                have hq2 := hyp (j / P.cellsOf e) (j / P.cellsOf e) (by simp [List.getElem?_range hq])
                rw [List.getElem?_eq_getElem (by simp at hyl; omega)] at hq2
                refine ih e fu _ _ htl.2 hq2 v ?_
                have hr := Nat.mod_lt j hc0
                refine List.mem_of_getElem? (i := j % P.cellsOf e) ?_
                rw [List.getElem?_take_of_lt hr, List.getElem?_drop, Nat.div_add_mod']
                exact hj
            · cases h
        · cases fuel with
          | zero => simp [DataW.trod] at h
          | succ n =>
            unfold DataW.trod at h
            rw [hu] at h
            cases desc <;> first | exact absurd ⟨_, rfl⟩ hs | exact absurd ⟨_, _, rfl⟩ ha | skip
            all_goals (simp only at h; first | (cases h; done) | (split at h <;> first | (simp at hv; subst hv; rfl) | (cases h; done) | simp_all))
end
end Go.Proofs.YtcikenlflcofbaaDoor

/-
  An expression that the form reads lies in memory as such in the words of the other texts.
-/
namespace Go.Proofs.YtcikenlflcofbaaDoor
open Go.RowKit Go.Deep

theorem cellsInt : Tryd.prog.cellsOf 3 = 1 := by kernel_rfl
theorem cellsStr : Tryd.prog.cellsOf 9 = 1 := by kernel_rfl
theorem cellsExpr : Tryd.prog.cellsOf 49 = 4 := by kernel_rfl
theorem cellsExprs : Tryd.prog.cellsOf 41 = 1 := by kernel_rfl
theorem four_of {l : List Value} (h : l.length = 4) : ∃ a b c d, l = [a, b, c, d] := by
  match l, h with
  | [a, b, c, d], _ => exact ⟨a, b, c, d, rfl⟩

section
variable {H : Type} {enc : TypeId × Value → H} {w : World} {base : Nat} {spare : Nat → Bool} {held : Bool}
/-- One field of one cell, and the fuel that is left. -/
theorem field_fuel {t : TypeId} {fs : Array Field} {fuel : Nat} {cs : List Value} {x : DataW H × List MemPlace} (ht : Tryd.prog.underlying t = some (.struct fs)) (h : DataW.trod enc Tryd.prog w base spare held (fuel + 1) t cs = some x)
    (i : Nat) {f : Field} (hf : fs[i]? = some f) (h1 : Tryd.prog.cellsOf f.type = 1) (hoff : f.offset < Tryd.prog.cellsOf t) :
    ∃ v y, cs[f.offset]? = some v ∧ DataW.trod enc Tryd.prog w base spare held fuel f.type [v] = some y := by
  obtain ⟨xs, n, hn, _, hlen, hxl, hg⟩ := DataW.trod_struct ht h
  obtain rfl : fuel = n := by omega
  have hif : i < fs.size := (Array.getElem?_eq_some_iff.1 hf).1
  have hgi := hg i f hf
  rw [h1] at hgi
  have hl : f.offset < cs.length := by omega
  have hone : (cs.drop f.offset).take 1 = [cs[f.offset]'hl] := by
    rw [List.drop_eq_getElem_cons hl]; rfl
  rw [hone, List.getElem?_eq_getElem (by omega)] at hgi
  exact ⟨_, _, List.getElem?_eq_getElem hl, hgi⟩
theorem expr_trodC : ∀ (fuel : Nat) (cs : List Value) (x : DataW H × List MemPlace), DataW.trod enc Tryd.prog w base spare held fuel 49 cs = some x → ∃ y, ExC fuel w (fun b => b < w.heap.size) cs y := by
  intro fuel
  induction fuel using Nat.strongRecOn with
  | _ fuel ih =>
  intro cs x h
  cases fuel with
  | zero => simp [DataW.trod] at h
  | succ fuel =>
    obtain ⟨a, b, c, d, rfl⟩ := four_of ((trod_len Tryd.underlying49 h).trans cellsExpr)
    obtain ⟨v0, y0, e0, t0⟩ := field_fuel Tryd.underlying49 h 0 rfl cellsInt (by rw [cellsExpr]; decide)
    obtain ⟨v1, y1, e1, t1⟩ := field_fuel Tryd.underlying49 h 1 rfl cellsInt (by rw [cellsExpr]; decide)
    obtain ⟨v2, y2, e2, t2⟩ := field_fuel Tryd.underlying49 h 2 rfl cellsStr (by rw [cellsExpr]; decide)
    obtain ⟨v3, y3, e3, t3⟩ := field_fuel Tryd.underlying49 h 3 rfl cellsExprs (by rw [cellsExpr]; decide)
    cases e0; cases e1; cases e2; cases e3
    obtain ⟨op, p0, _, w0⟩ := DataW.trod_int Tryd.underlying3 t0
    obtain ⟨n, p1, _, w1⟩ := DataW.trod_int Tryd.underlying3 t1
    obtain ⟨s, p2, _, w2⟩ := DataW.trod_string Tryd.underlying9 t2
    cases p0; cases p1; cases p2
    obtain ⟨⟨nm⟩⟩ := s
    have hnm : nm.length ≤ maxLen := by simpa [ByteArray.size] using w2
    rcases DataW.trod_slice Tryd.underlying41 t3 with ⟨h0, _⟩ | ⟨ad, len, cap, elems, rest, m, hm, h0, _, hb, hl, hmx, hlen, hel, _, _⟩
    · cases h0
      exact ⟨.mk op n nm [], Option.none, 0, rfl, Nat.le_refl _, Nat.zero_le _, ⟨w0, w1, hnm⟩, Rw.nil⟩
    · cases h0
      subst hm
      have hper : ∀ i, i < len → ∃ z, ∃ ds, ds.length = 4 ∧ ExC m w (fun b => b < w.heap.size) ds z ∧ ∀ j v, ds[j]? = some v → w.cell? (ad.add (i * 4 + j)) = some v := by
        intro i hil
        have hi := hel i hil
        rw [cellsExpr, List.getElem?_eq_getElem (by omega)] at hi
        obtain ⟨ds, hds, htr⟩ := Option.bind_eq_some_iff.1 hi
        obtain ⟨_, hdl, hat⟩ := World.cells?_some hds
        obtain ⟨z, hz⟩ := ih m (by omega) ds _ htr
        refine ⟨z, ds, hdl, hz, fun j v hv => ?_⟩
        have hj : j < 4 := by have := (List.getElem?_eq_some_iff.1 hv).1; omega
        have := hat j hj
        rw [Go.Deep.add_add] at this
        rw [this, hv]
      obtain ⟨zs, hzl, hzp⟩ := list_of _ len hper
      refine ⟨.mk op n nm zs, some ad, cap, by rw [hzl], by omega, hmx, ⟨w0, w1, hnm⟩, rfl, fun hn => ?_⟩
      obtain ⟨ds0, hd0, _, hc0⟩ := hzp 0 (zs[0]'(by omega)) (List.getElem?_eq_getElem (by omega))
      have hcell0 := hc0 0 (ds0[0]'(by omega)) (List.getElem?_eq_getElem (by omega))
      have haz : ad.add (0 * 4 + 0) = ad := by simp [Addr.add]
      rw [haz] at hcell0
      have ha : ad = ⟨ad.block, ad.off, Option.none⟩ := by
        have := spot_none hcell0
        cases ad; simp_all
      have hblk : ad.block < w.heap.size := block_lt_of_cell hcell0
      refine ⟨ad.block, ad.off, congrArg some ha, hblk, fun k z hz => ?_⟩
      obtain ⟨ds, hdl, hR, hat⟩ := hzp k z hz
      refine ⟨ds, hdl, ExC.deeper _ _ _ _ _ hR, fun j v hv => ?_⟩
      have := hat j v hv
      rw [ha, Addr.add_mid] at this
      simpa [Nat.add_assoc] using this
theorem expr_trod {fuel : Nat} {cs : List Value} {x : DataW H × List MemPlace} (h : DataW.trod enc Tryd.prog w base spare held fuel 49 cs = some x) :
    ∃ op n nm A c ks, cs = [.int .i64 op, .int .i64 n, .string ⟨nm.toArray⟩, .slice A ks.length c] ∧ XI w op n nm A c ks := by
  obtain ⟨y, hy⟩ := expr_trodC fuel cs x h
  obtain ⟨op, n, nm, ks⟩ := y
  obtain ⟨A, c, e, h1, h2, h3, h4⟩ := ExV.form ⟨fuel, hy⟩
  exact ⟨op, n, nm, A, c, ks, e, h1, h2, h3, h4⟩
end
end Go.Proofs.YtcikenlflcofbaaDoor

/-
  Signals that the form reads are such in the words of the other texts.
-/
namespace Go.Proofs.YtcikenlflcofbaaDoor
open Go.RowKit Go.Deep

theorem cellsSg : Tryd.prog.cellsOf 58 = 2 := by kernel_rfl
theorem two_cells {l : List Value} (h : l.length = 2) : ∃ a b, l = [a, b] := by
  match l, h with
  | [a, b], _ => exact ⟨a, b, rfl⟩
def SgCs (w : World) (_ : Nat) (cs : List Value) (s : Sg) : Prop := SgC w (fun _ => True) cs s
theorem rw_of_rws {α : Type} {R : World → Nat → List Value → α → Prop} {R' : World → (Nat → Prop) → List Value → α → Prop} {size n : Nat} {w : World} {A : Option Addr} {xs : List α} (h : Rws R size w w.heap.size A n xs) (hR : ∀ cs x, R w w.heap.size cs x → R' w (fun b => b < w.heap.size) cs x) : Rw R' size w (fun b => b < w.heap.size) A n xs := by
  refine ⟨h.1, fun hn => ?_⟩
  obtain ⟨b, o, e, hb, hr⟩ := h.2 hn
  refine ⟨b, o, e, hb, fun k x hx => ?_⟩
  obtain ⟨cs, h1, h2, h3⟩ := hr k x hx
  exact ⟨cs, h1, hR cs x h2, h3⟩

section
variable {H : Type} {enc : TypeId × Value → H} {w : World} {base : Nat} {spare : Nat → Bool} {held : Bool}
theorem sg_trod {fuel : Nat} {cs : List Value} {x : DataW H × List MemPlace} (h : DataW.trod enc Tryd.prog w base spare held fuel 58 cs = some x) : ∃ z, SgCs w w.heap.size cs z := by
  obtain ⟨a, b, rfl⟩ := two_cells ((trod_len Tryd.underlying58 h).trans cellsSg)
  obtain ⟨n0, v0, y0, e0, t0⟩ := field_one Tryd.underlying58 h 0 rfl cellsStr (by rw [cellsSg]; decide)
  obtain ⟨n1, v1, y1, e1, t1⟩ := field_one Tryd.underlying58 h 1 rfl cellsInt (by rw [cellsSg]; decide)
  cases e0; cases e1
  obtain ⟨s, p0, _, w0⟩ := DataW.trod_string Tryd.underlying9 t0
  obtain ⟨n, p1, _, w1⟩ := DataW.trod_int Tryd.underlying3 t1
  cases p0; cases p1
  obtain ⟨⟨nm⟩⟩ := s
  exact ⟨⟨nm, n⟩, rfl, by simpa [ByteArray.size] using w0, w1⟩
theorem sgs_trod {fuel : Nat} {cs : List Value} {x : DataW H × List MemPlace} (h : DataW.trod enc Tryd.prog w base spare held fuel 23 cs = some x) :
    ∃ (A : Option Addr) (c : Nat) (es : List Sg), cs = [.slice A es.length c] ∧ es.length ≤ c ∧ c ≤ maxLen ∧ Rw SgC 2 w (fun b => b < w.heap.size) A es.length es := by
  obtain ⟨es, A, c, rfl, h1, h2, h3⟩ := sliceOf_trod (R := SgCs) (by decide) Tryd.underlying23 cellsSg (fun n ds y _ hy => sg_trod hy) h
  exact ⟨A, c, es, rfl, h1, h2, rw_of_rws h3 fun _ _ q => q⟩
end
end Go.Proofs.YtcikenlflcofbaaDoor

/-
  Rules that the form reads are such in the words of the other texts.
-/
namespace Go.Proofs.YtcikenlflcofbaaDoor
open Go.RowKit Go.Deep

theorem cellsRl : Tryd.prog.cellsOf 27 = 2 := by kernel_rfl
def RlCs (w : World) (_ : Nat) (cs : List Value) (r : Rl) : Prop := RlC w (fun _ => True) cs r
section
variable {H : Type} {enc : TypeId × Value → H} {w : World} {base : Nat} {spare : Nat → Bool} {held : Bool}
theorem rl_trod {fuel : Nat} {cs : List Value} {x : DataW H × List MemPlace} (h : DataW.trod enc Tryd.prog w base spare held fuel 27 cs = some x) : ∃ z, RlCs w w.heap.size cs z := by
  obtain ⟨a, b, rfl⟩ := two_cells ((trod_len Tryd.underlying27 h).trans cellsRl)
  obtain ⟨n0, v0, y0, e0, t0⟩ := field_one Tryd.underlying27 h 0 rfl cellsStr (by rw [cellsRl]; decide)
  obtain ⟨n1, v1, y1, e1, t1⟩ := field_one Tryd.underlying27 h 1 rfl cellsStr (by rw [cellsRl]; decide)
  cases e0; cases e1
  obtain ⟨s, p0, _, w0⟩ := DataW.trod_string Tryd.underlying9 t0
  obtain ⟨u, p1, _, w1⟩ := DataW.trod_string Tryd.underlying9 t1
  cases p0; cases p1
  obtain ⟨⟨nm⟩⟩ := s
  obtain ⟨⟨tx⟩⟩ := u
  exact ⟨⟨nm, tx⟩, rfl, by simpa [ByteArray.size] using w0, by simpa [ByteArray.size] using w1⟩
theorem rls_trod {fuel : Nat} {cs : List Value} {x : DataW H × List MemPlace} (h : DataW.trod enc Tryd.prog w base spare held fuel 22 cs = some x) :
    ∃ (A : Option Addr) (c : Nat) (es : List Rl), cs = [.slice A es.length c] ∧ es.length ≤ c ∧ c ≤ maxLen ∧ Rw RlC 2 w (fun b => b < w.heap.size) A es.length es := by
  obtain ⟨es, A, c, rfl, h1, h2, h3⟩ := sliceOf_trod (R := RlCs) (by decide) Tryd.underlying22 cellsRl (fun n ds y _ hy => rl_trod hy) h
  exact ⟨A, c, es, rfl, h1, h2, rw_of_rws h3 fun _ _ q => q⟩
end
end Go.Proofs.YtcikenlflcofbaaDoor
