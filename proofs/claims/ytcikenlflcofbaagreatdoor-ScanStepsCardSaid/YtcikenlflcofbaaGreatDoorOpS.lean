/-
  From the form's own reading of an argument ('DataW.trod') to the words of the Base text: structs field by field, slices as lists. No program is named here.
-/
import Derived.Test.YtcikenlflcofbaaGreatDoorBase
import Derived.Test.YtcikenlflcofbaaGreatDoorSaX
import Derived.Test.YtcikenlflcofbaaGreatDoorTable
import Derived.Test.YtcikenlflcofbaaGreatDoorRulW
namespace Go.Proofs.YtcikenlflcofbaaGreatDoor
open Go.RowKit Go.Deep

section
variable {H : Type} {enc : TypeId × Value → H} {P : Program} {w : World} {base : Nat} {spare : Nat → Bool} {held : Bool}

/-- A list of what is there for each place below n. -/
theorem list_of {α : Type} (p : Nat → α → Prop) : ∀ n : Nat, (∀ i, i < n → ∃ y, p i y) → ∃ l : List α, l.length = n ∧ ∀ k y, l[k]? = some y → p k y
  | 0, _ => ⟨[], rfl, fun k y h => by simp at h⟩
  | n + 1, h => by
    obtain ⟨l, hl, hp⟩ := list_of p n fun i hi => h i (by omega)
    obtain ⟨y, hy⟩ := h n (by omega)
    refine ⟨l ++ [y], by simp [hl], fun k z hz => ?_⟩
    rcases Nat.lt_or_ge k n with hk | hk
    · rw [List.getElem?_append_left (by omega)] at hz; exact hp k z hz
    · have hk' : k = n := by
        have := (List.getElem?_eq_some_iff.1 hz).1
        simp at this; omega
      subst hk'
      rw [List.getElem?_append_right (by omega)] at hz
      simp [hl] at hz
      subst hz; exact hy

/-- An address with a cell is a plain one. -/
theorem spot_none {a : Addr} {v : Value} (h : w.cell? a = some v) : a.spot = Option.none := by
  unfold World.cell? at h
  split at h
  · split at h
    · cases h
    · rename_i hs
      cases hsp : a.spot with
      | none => rfl
      | some x => rw [hsp] at hs; simp at hs
  · cases h

theorem sliceOf_trod {α : Type} {R : World → Nat → List Value → α → Prop} {t e : TypeId} {size fuel : Nat} {cs : List Value} {x : DataW H × List MemPlace} (hpos : 0 < size) (ht : P.underlying t = some (.slice e)) (hC : P.cellsOf e = size)
    (hel : ∀ (n : Nat) (ds : List Value) (y : DataW H × List MemPlace), ds.length = size → DataW.trod enc P w base spare held n e ds = some y → ∃ z, R w w.heap.size ds z)
    (h : DataW.trod enc P w base spare held fuel t cs = some x) : ∃ zs, SliceOf R size w w.heap.size cs zs := by
  rcases open_slice ht h with ⟨rfl, _⟩ | ⟨a, len, cap, m, n, D, Pl, rfl, hb, hl, hm, hmm, hx, hi⟩
  · exact ⟨[], Option.none, 0, rfl, Nat.le_refl _, Nat.zero_le _, rfl, fun h => absurd h (Nat.not_lt_zero _)⟩
  · have hlm : len ≤ m := by rw [hmm]; split <;> omega
    have hper : ∀ i, i < len → ∃ z, ∃ ds, ds.length = size ∧ R w w.heap.size ds z ∧ ∀ j v, ds[j]? = some v → w.cell? (a.add (i * size + j)) = some v := by
      intro i hil
      obtain ⟨ds, hds, htr⟩ := hi i (by omega)
      rw [hC] at hds
      obtain ⟨_, hdl, hat⟩ := World.cells?_some hds
      obtain ⟨z, hz⟩ := hel n ds _ hdl htr
      refine ⟨z, ds, hdl, hz, fun j v hv => ?_⟩
      have hj : j < size := by have := (List.getElem?_eq_some_iff.1 hv).1; omega
      have := hat j hj
      rw [Go.Deep.add_add] at this
      rw [this, hv]
    obtain ⟨zs, hzl, hzp⟩ := list_of _ len hper
    refine ⟨zs, some a, cap, by rw [hzl], by omega, hm, rfl, fun hn => ?_⟩
    obtain ⟨ds0, hd0, _, hc0⟩ := hzp 0 (zs[0]'(by omega)) (List.getElem?_eq_getElem (by omega))
    have hcell0 := hc0 0 (ds0[0]'(by omega)) (List.getElem?_eq_getElem (by omega))
    have ha : a = ⟨a.block, a.off, Option.none⟩ := by
      have : a.add (0 * size + 0) = a := by simp [Addr.add]
      rw [this] at hcell0
      have := spot_none hcell0
      cases a; simp_all
    have hblk : a.block < w.heap.size := by
      have : a.add (0 * size + 0) = a := by simp [Addr.add]
      rw [this] at hcell0
      exact block_lt_of_cell hcell0
    refine ⟨a.block, a.off, congrArg some ha, hblk, fun k z hz => ?_⟩
    obtain ⟨ds, hdl, hR, hat⟩ := hzp k z hz
    refine ⟨ds, hdl, hR, fun j v hv => ?_⟩
    have := hat j v hv
    rw [ha, Addr.add_mid] at this
    simpa [Nat.add_assoc] using this

/-- One field of one cell. -/
theorem field_one {t : TypeId} {fs : Array Field} {fuel : Nat} {cs : List Value} {x : DataW H × List MemPlace} (ht : P.underlying t = some (.struct fs)) (h : DataW.trod enc P w base spare held fuel t cs = some x)
    (i : Nat) {f : Field} (hf : fs[i]? = some f) (h1 : P.cellsOf f.type = 1) (hoff : f.offset < P.cellsOf t) :
    ∃ n v y, cs[f.offset]? = some v ∧ DataW.trod enc P w base spare held n f.type [v] = some y := by
  obtain ⟨xs, n, _, _, hlen, hxl, hg⟩ := DataW.trod_struct ht h
  have hif : i < fs.size := (Array.getElem?_eq_some_iff.1 hf).1
  have hgi := hg i f hf
  rw [h1] at hgi
  have hl : f.offset < cs.length := by omega
  have hone : (cs.drop f.offset).take 1 = [cs[f.offset]'hl] := by
    rw [List.drop_eq_getElem_cons hl]; rfl
  rw [hone, List.getElem?_eq_getElem (by omega)] at hgi
  exact ⟨n, _, _, List.getElem?_eq_getElem hl, hgi⟩
theorem trod_len {t : TypeId} {fs : Array Field} {fuel : Nat} {cs : List Value} {x : DataW H × List MemPlace} (ht : P.underlying t = some (.struct fs)) (h : DataW.trod enc P w base spare held fuel t cs = some x) : cs.length = P.cellsOf t := by
  obtain ⟨xs, n, _, _, hlen, _⟩ := DataW.trod_struct ht h
  exact hlen
end
end Go.Proofs.YtcikenlflcofbaaGreatDoor

/-
  Signals that the form reads are such in the words of the other texts.
-/
namespace Go.Proofs.YtcikenlflcofbaaGreatDoor
open Go.RowKit Go.Deep

theorem cellsInt : Tryz.prog.cellsOf 3 = 1 := by kernel_rfl
theorem cellsStr : Tryz.prog.cellsOf 9 = 1 := by kernel_rfl
theorem four_of {l : List Value} (h : l.length = 4) : ∃ a b c d, l = [a, b, c, d] := by
  match l, h with
  | [a, b, c, d], _ => exact ⟨a, b, c, d, rfl⟩
theorem cellsSg : Tryz.prog.cellsOf 40 = 2 := by kernel_rfl
theorem two_cells {l : List Value} (h : l.length = 2) : ∃ a b, l = [a, b] := by
  match l, h with
  | [a, b], _ => exact ⟨a, b, rfl⟩
def SgCs (w : World) (_ : Nat) (cs : List Value) (s : Sg) : Prop := SgC w (fun _ => True) cs s
theorem rw_of_rws {α : Type} {R : World → Nat → List Value → α → Prop} {R' : World → (Nat → Prop) → List Value → α → Prop} {size n : Nat} {w : World} {A : Option Addr} {xs : List α} (h : Rws R size w w.heap.size A n xs) (hR : ∀ cs x, R w w.heap.size cs x → R' w (fun b => b < w.heap.size) cs x) : Rw R' size w (fun b => b < w.heap.size) A n xs := by
  refine ⟨h.1, fun hn => ?_⟩
  obtain ⟨b, o, e, hb, hr⟩ := h.2 hn
  refine ⟨b, o, e, hb, fun k x hx => ?_⟩
  obtain ⟨cs, h1, h2, h3⟩ := hr k x hx
  exact ⟨cs, h1, hR cs x h2, h3⟩

section
variable {H : Type} {enc : TypeId × Value → H} {w : World} {base : Nat} {spare : Nat → Bool} {held : Bool}
theorem sg_trod {fuel : Nat} {cs : List Value} {x : DataW H × List MemPlace} (h : DataW.trod enc Tryz.prog w base spare held fuel 40 cs = some x) : ∃ z, SgCs w w.heap.size cs z := by
  obtain ⟨a, b, rfl⟩ := two_cells ((trod_len Tryz.underlying40 h).trans cellsSg)
  obtain ⟨n0, v0, y0, e0, t0⟩ := field_one Tryz.underlying40 h 0 rfl cellsStr (by rw [cellsSg]; decide)
  obtain ⟨n1, v1, y1, e1, t1⟩ := field_one Tryz.underlying40 h 1 rfl cellsInt (by rw [cellsSg]; decide)
  cases e0; cases e1
  obtain ⟨s, p0, _, w0⟩ := DataW.trod_string Tryz.underlying9 t0
  obtain ⟨n, p1, _, w1⟩ := DataW.trod_int Tryz.underlying3 t1
  cases p0; cases p1
  obtain ⟨⟨nm⟩⟩ := s
  exact ⟨⟨nm, n⟩, rfl, by simpa [ByteArray.size] using w0, w1⟩
theorem sgs_trod {fuel : Nat} {cs : List Value} {x : DataW H × List MemPlace} (h : DataW.trod enc Tryz.prog w base spare held fuel 23 cs = some x) :
    ∃ (A : Option Addr) (c : Nat) (es : List Sg), cs = [.slice A es.length c] ∧ es.length ≤ c ∧ c ≤ maxLen ∧ Rw SgC 2 w (fun b => b < w.heap.size) A es.length es := by
  obtain ⟨es, A, c, rfl, h1, h2, h3⟩ := sliceOf_trod (R := SgCs) (by decide) Tryz.underlying23 cellsSg (fun n ds y _ hy => sg_trod hy) h
  exact ⟨A, c, es, rfl, h1, h2, rw_of_rws h3 fun _ _ q => q⟩
end
end Go.Proofs.YtcikenlflcofbaaGreatDoor
