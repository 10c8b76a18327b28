/-
  From the form's own reading of an argument ('DataW.trod') to the words of the Base text: structs field by field, slices as lists. No program is named here.
-/
import Derived.Test.YtmbmngnnfkdngaaDoorBase
namespace Go.Proofs.YtmbmngnnfkdngaaDoor
open Go.RowKit Go.Deep

section
variable {H : Type} {enc : TypeId × Value → H} {P : Program} {w : World} {base : Nat} {spare : Nat → Bool} {held : Bool}

/-- A list of what is there for each place below n. -/
theorem list_of {α : Type} (p : Nat → α → Prop) : ∀ n : Nat, (∀ i, i < n → ∃ y, p i y) → ∃ l : List α, l.length = n ∧ ∀ k y, l[k]? = some y → p k y
  | 0, _ => ⟨[], rfl, fun k y h => by simp at h⟩
  | n + 1, h => by
    obtain ⟨l, hl, hp⟩ := list_of p n fun i hi => h i (by omega)
    obtain ⟨y, hy⟩ := h n (by omega)
    refine ⟨l ++ [y], by simp [hl], fun k z hz => ?_⟩
    rcases Nat.lt_or_ge k n with hk | hk
    · rw [List.getElem?_append_left (by omega)] at hz; exact hp k z hz
    · have hk' : k = n := by
        have := (List.getElem?_eq_some_iff.1 hz).1
        simp at this; omega
      subst hk'
      rw [List.getElem?_append_right (by omega)] at hz
      simp [hl] at hz
      subst hz; exact hy

/-- An address with a cell is a plain one. -/
theorem spot_none {a : Addr} {v : Value} (h : w.cell? a = some v) : a.spot = Option.none := by
  unfold World.cell? at h
  split at h
  · split at h
    · cases h
    · rename_i hs
      cases hsp : a.spot with
      | none => rfl
      | some x => rw [hsp] at hs; simp at hs
  · cases h

theorem sliceOf_trod {α : Type} {R : World → Nat → List Value → α → Prop} {t e : TypeId} {size fuel : Nat} {cs : List Value} {x : DataW H × List MemPlace} (hpos : 0 < size) (ht : P.underlying t = some (.slice e)) (hC : P.cellsOf e = size)
    (hel : ∀ (n : Nat) (ds : List Value) (y : DataW H × List MemPlace), ds.length = size → DataW.trod enc P w base spare held n e ds = some y → ∃ z, R w w.heap.size ds z)
    (h : DataW.trod enc P w base spare held fuel t cs = some x) : ∃ zs, SliceOf R size w w.heap.size cs zs := by
  rcases open_slice ht h with ⟨rfl, _⟩ | ⟨a, len, cap, m, n, D, Pl, rfl, hb, hl, hm, hmm, hx, hi⟩
  · exact ⟨[], Option.none, 0, rfl, Nat.le_refl _, Nat.zero_le _, rfl, fun h => absurd h (Nat.not_lt_zero _)⟩
  · have hlm : len ≤ m := by rw [hmm]; split <;> omega
    have hper : ∀ i, i < len → ∃ z, ∃ ds, ds.length = size ∧ R w w.heap.size ds z ∧ ∀ j v, ds[j]? = some v → w.cell? (a.add (i * size + j)) = some v := by
      intro i hil
      obtain ⟨ds, hds, htr⟩ := hi i (by omega)
      rw [hC] at hds
      obtain ⟨_, hdl, hat⟩ := World.cells?_some hds
      obtain ⟨z, hz⟩ := hel n ds _ hdl htr
      refine ⟨z, ds, hdl, hz, fun j v hv => ?_⟩
      have hj : j < size := by have := (List.getElem?_eq_some_iff.1 hv).1; omega
      have := hat j hj
      rw [Go.Deep.add_add] at this
      rw [this, hv]
    obtain ⟨zs, hzl, hzp⟩ := list_of _ len hper
    refine ⟨zs, some a, cap, by rw [hzl], by omega, hm, rfl, fun hn => ?_⟩
    obtain ⟨ds0, hd0, _, hc0⟩ := hzp 0 (zs[0]'(by omega)) (List.getElem?_eq_getElem (by omega))
    have hcell0 := hc0 0 (ds0[0]'(by omega)) (List.getElem?_eq_getElem (by omega))
    have ha : a = ⟨a.block, a.off, Option.none⟩ := by
      have : a.add (0 * size + 0) = a := by simp [Addr.add]
      rw [this] at hcell0
      have := spot_none hcell0
      cases a; simp_all
    have hblk : a.block < w.heap.size := by
      have : a.add (0 * size + 0) = a := by simp [Addr.add]
      rw [this] at hcell0
      exact block_lt_of_cell hcell0
    refine ⟨a.block, a.off, congrArg some ha, hblk, fun k z hz => ?_⟩
    obtain ⟨ds, hdl, hR, hat⟩ := hzp k z hz
    refine ⟨ds, hdl, hR, fun j v hv => ?_⟩
    have := hat j v hv
    rw [ha, Addr.add_mid] at this
    simpa [Nat.add_assoc] using this

/-- One field of one cell. -/
theorem field_one {t : TypeId} {fs : Array Field} {fuel : Nat} {cs : List Value} {x : DataW H × List MemPlace} (ht : P.underlying t = some (.struct fs)) (h : DataW.trod enc P w base spare held fuel t cs = some x)
    (i : Nat) {f : Field} (hf : fs[i]? = some f) (h1 : P.cellsOf f.type = 1) (hoff : f.offset < P.cellsOf t) :
    ∃ n v y, cs[f.offset]? = some v ∧ DataW.trod enc P w base spare held n f.type [v] = some y := by
  obtain ⟨xs, n, _, _, hlen, hxl, hg⟩ := DataW.trod_struct ht h
  have hif : i < fs.size := (Array.getElem?_eq_some_iff.1 hf).1
  have hgi := hg i f hf
  rw [h1] at hgi
  have hl : f.offset < cs.length := by omega
  have hone : (cs.drop f.offset).take 1 = [cs[f.offset]'hl] := by
    rw [List.drop_eq_getElem_cons hl]; rfl
  rw [hone, List.getElem?_eq_getElem (by omega)] at hgi
  exact ⟨n, _, _, List.getElem?_eq_getElem hl, hgi⟩
theorem trod_len {t : TypeId} {fs : Array Field} {fuel : Nat} {cs : List Value} {x : DataW H × List MemPlace} (ht : P.underlying t = some (.struct fs)) (h : DataW.trod enc P w base spare held fuel t cs = some x) : cs.length = P.cellsOf t := by
  obtain ⟨xs, n, _, _, hlen, _⟩ := DataW.trod_struct ht h
  exact hlen

/-- The fields of a struct, and of the structs in it, tile its cells. -/
def tiles (P : Program) : Nat → TypeId → Bool
  | 0, _ => false
  | d + 1, t => match P.underlying t with
    | some (.struct fs) => ((fs.toList.flatMap fun f => (List.range (P.cellsOf f.type)).map (f.offset + ·)) == List.range (P.cellsOf t)) && fs.toList.all fun f => tiles P d f.type
    | some (.array n e) => (n * P.cellsOf e == P.cellsOf t) && tiles P d e
    | _ => true

theorem trod_one : ∀ (d : Nat) (t : TypeId) (fuel : Nat) (cs : List Value) (x : DataW H × List MemPlace), tiles P d t = true → DataW.trod enc P w base spare held fuel t cs = some x → ∀ v ∈ cs, v.oneCell' = true := by
  intro d
  induction d with
  | zero => intro t fuel cs x ht; simp [tiles] at ht
  | succ d ih =>
    intro t fuel cs x htl h v hv
    cases hu : P.underlying t with
    | none =>
      cases fuel with
      | zero => simp [DataW.trod] at h
      | succ n => unfold DataW.trod at h; rw [hu] at h; simp at h
    | some desc =>
      by_cases hs : ∃ fs, desc = .struct fs
      · obtain ⟨fs, rfl⟩ := hs
        simp only [tiles, hu, Bool.and_eq_true, beq_iff_eq, List.all_eq_true] at htl
        obtain ⟨xs, n, _, _, hlen, hxl, hg⟩ := DataW.trod_struct hu h
        obtain ⟨j, hj⟩ := List.getElem?_of_mem hv
        have hjl : j < P.cellsOf t := by have := (List.getElem?_eq_some_iff.1 hj).1; omega
        have hmem : j ∈ fs.toList.flatMap fun f => (List.range (P.cellsOf f.type)).map (f.offset + ·) := by rw [htl.1]; simpa using hjl
        obtain ⟨f, hf, hjf⟩ := List.mem_flatMap.1 hmem
        obtain ⟨i, hi, rfl⟩ := List.mem_map.1 hjf
        have hi' : i < P.cellsOf f.type := by simpa using hi
        obtain ⟨k, hk⟩ := List.getElem?_of_mem hf
        have hk' : fs[k]? = some f := by simpa using hk
        have hkl : k < fs.size := (Array.getElem?_eq_some_iff.1 hk').1
        have hgk := hg k f hk'
        rw [List.getElem?_eq_getElem (by omega)] at hgk
        refine ih f.type n _ _ (htl.2 f hf) hgk v ?_
        refine List.mem_of_getElem? (i := i) ?_
        rw [List.getElem?_take_of_lt hi', List.getElem?_drop]
        exact hj
      · by_cases ha : ∃ n e, desc = .array n e
        · obtain ⟨n, e, rfl⟩ := ha
          simp only [tiles, hu, Bool.and_eq_true, beq_iff_eq] at htl
          cases fuel with
          | zero => simp [DataW.trod] at h
          | succ fu =>
            unfold DataW.trod at h
            rw [hu] at h
            simp only at h
            split at h
            · rename_i hcl
              cases hm : (List.range n).mapM fun i => DataW.trod enc P w base spare held fu e ((cs.drop (i * P.cellsOf e)).take (P.cellsOf e)) with
              | none => rw [hm] at h; simp at h
              | some ys =>
                obtain ⟨hyl, hyp⟩ := some_mapM _ _ _ hm
                obtain ⟨j, hj⟩ := List.getElem?_of_mem hv
                have hjl : j < n * P.cellsOf e := by have := (List.getElem?_eq_some_iff.1 hj).1; omega
                have hc0 : 0 < P.cellsOf e := by
                  rcases Nat.eq_zero_or_pos (P.cellsOf e) with h0 | h0
                  · rw [h0] at hjl; simp at hjl
                  · exact h0
                have hq : j / P.cellsOf e < n := Nat.div_lt_of_lt_mul (by rw [Nat.mul_comm]; exact hjl)
                have hq2 := hyp (j / P.cellsOf e) (j / P.cellsOf e) (by simp [List.getElem?_range hq])
                rw [List.getElem?_eq_getElem (by simp at hyl; omega)] at hq2
                refine ih e fu _ _ htl.2 hq2 v ?_
                have hr := Nat.mod_lt j hc0
                refine List.mem_of_getElem? (i := j % P.cellsOf e) ?_
                rw [List.getElem?_take_of_lt hr, List.getElem?_drop, Nat.div_add_mod']
                exact hj
            · cases h
        · cases fuel with
          | zero => simp [DataW.trod] at h
          | succ n =>
            unfold DataW.trod at h
            rw [hu] at h
            cases desc <;> first | exact absurd ⟨_, rfl⟩ hs | exact absurd ⟨_, _, rfl⟩ ha | skip
            all_goals (simp only at h; first | (cases h; done) | (split at h <;> first | (simp at hv; subst hv; rfl) | (cases h; done) | simp_all))
end
end Go.Proofs.YtmbmngnnfkdngaaDoor
