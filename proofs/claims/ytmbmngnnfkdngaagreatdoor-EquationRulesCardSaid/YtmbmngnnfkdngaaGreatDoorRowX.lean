/-
  A slice of expressions that a call builds: it owns the slice's block; the expressions' operands lie in other blocks.
-/
import Derived.Test.YtmbmngnnfkdngaaGreatDoorRel
namespace Go.Proofs.YtmbmngnnfkdngaaGreatDoor
open Go.RowKit

/-- An expression as it lies in four cells. -/
structure XL where
  op : Int
  n : Int
  nm : List UInt8
  A : Option Addr
  k : Nat
  c : Nat
def XL.cells (l : XL) : List Value := [.int .i64 l.op, .int .i64 l.n, .string ⟨l.nm.toArray⟩, .slice l.A l.k l.c]
/-- v is a slice of the expressions xs; its block lies at base or above, and so do the blocks of T, where the operands lie. -/
def XOwn (w : World) (base : Nat) (T : Nat → Prop) (v : Value) (xs : List Ex) : Prop :=
  ∃ ls : List XL, ls.length = xs.length ∧ w.ownsRow base 25 4 v xs.length (ls.flatMap XL.cells) ∧ (∀ (k : Nat) (l : XL) (x : Ex), ls[k]? = some l → xs[k]? = some x → ExV w T l.cells x) ∧ ∀ b, T b → base ≤ b ∧ b < w.heap.size ∧ some b ≠ v.ownBlock
theorem XOwn.nil (w : World) (base : Nat) : XOwn w base (fun _ => False) (.slice Option.none 0 0) [] := ⟨[], rfl, ⟨rfl, .inl ⟨rfl, rfl⟩⟩, (fun k l x h => by simp at h), fun _ h => h.elim⟩
theorem XOwn.shape {w : World} {base : Nat} {T : Nat → Prop} {v : Value} {xs : List Ex} (h : XOwn w base T v xs) : ∃ A c, v = .slice A xs.length c ∧ xs.length ≤ c ∧ c ≤ maxLen := by
  obtain ⟨ls, -, ho, -, -⟩ := h
  exact own_shape ho
theorem own_heap {w w' : World} {base : Nat} {e : TypeId} {size n : Nat} {v : Value} {xs : List Value} (h : w.ownsRow base e size v n xs) (hb : ∀ g, v.ownBlock = some g → g < w.heap.size → w'.heap[g]? = w.heap[g]?) : w'.ownsRow base e size v n xs := by
  refine ⟨h.1, ?_⟩
  rcases h.2 with q | ⟨g, cap, cur, rfl, h2, h3, h4⟩
  · exact .inl q
  · exact .inr ⟨g, cap, cur, rfl, h2, (hb g rfl (Array.getElem?_eq_some_iff.1 h3).1).trans h3, h4⟩
/-- A later world in which one elder block may have changed. -/
theorem XOwn.grown {w w' : World} {base q : Nat} {T : Nat → Prop} {v : Value} {xs : List Ex} (h : XOwn w base T v xs) (hg : w.grownBy w' (some q)) (hq : q < base) : XOwn w' base T v xs := by
  obtain ⟨ls, h1, h2, h3, h4⟩ := h
  refine ⟨ls, h1, own_heap h2 (fun g e hgs => hg.block g hgs (fun he => ?_)), fun k l x hl hx => ExV.mono _ _ _ _ _ _ (fun _ hb => hb) (keepOn_grown hg fun b hb => ⟨(h4 b hb).2.1, fun he => ?_⟩) (h3 k l x hl hx), fun b hb => ⟨(h4 b hb).1, Nat.lt_of_lt_of_le (h4 b hb).2.1 hg.size, (h4 b hb).2.2⟩⟩
  · injection he with he
    have := (h2.lt g e).1
    omega
  · injection he with he
    have := (h4 b hb).1
    omega
theorem XOwn.below {w w' : World} {base B : Nat} {T : Nat → Prop} {v : Value} {xs : List Ex} (h : XOwn w base T v xs) (hb : Below B w w') (hB : w.heap.size ≤ B) : XOwn w' base T v xs := by
  obtain ⟨ls, h1, h2, h3, h4⟩ := h
  exact ⟨ls, h1, own_below h2 hb hB, fun k l x hl hx => ExV.mono _ _ _ _ _ _ (fun _ q => q) (keepOn_below hb fun b q => Nat.lt_of_lt_of_le (h4 b q).2.1 hB) (h3 k l x hl hx), fun b q => ⟨(h4 b q).1, Nat.lt_of_lt_of_le (h4 b q).2.1 hb.size, (h4 b q).2.2⟩⟩
theorem XOwn.more {w : World} {base : Nat} {T T' : Nat → Prop} {v : Value} {xs : List Ex} (h : XOwn w base T v xs) (hT : ∀ b, T b → T' b) (h' : ∀ b, T' b → base ≤ b ∧ b < w.heap.size ∧ some b ≠ v.ownBlock) : XOwn w base T' v xs := by
  obtain ⟨ls, h1, h2, h3, h4⟩ := h
  exact ⟨ls, h1, h2, fun k l x hl hx => ExV.mono _ _ _ _ _ _ hT (KeepOn.refl _ _) (h3 k l x hl hx), h'⟩
theorem XOwn.lt {w : World} {base : Nat} {T : Nat → Prop} {v : Value} {xs : List Ex} (h : XOwn w base T v xs) {g : Nat} (hg : v.ownBlock = some g) : base ≤ g ∧ g < w.heap.size := by
  obtain ⟨ls, h1, h2, h3, h4⟩ := h
  exact h2.lt g hg
/-- One expression more. -/
theorem XOwn.push {w w' : World} {base : Nat} {T : Nat → Prop} {v v' : Value} {xs : List Ex} {l : XL} {y : Ex} {ls : List XL} (h1 : ls.length = xs.length) (h3 : ∀ (k : Nat) (l : XL) (x : Ex), ls[k]? = some l → xs[k]? = some x → ExV w T l.cells x) (h4 : ∀ b, T b → base ≤ b ∧ b < w.heap.size ∧ some b ≠ v.ownBlock)
    (hy : ExV w T l.cells y) (ho : w'.ownsRow base 25 4 v' (xs.length + 1) (ls.flatMap XL.cells ++ l.cells)) (hg : w.grownBy w' v.ownBlock) (hv : v'.ownBlock = v.ownBlock ∨ v'.ownBlock = some w.heap.size) : XOwn w' base T v' (xs ++ [y]) := by
  have hk : KeepOn T w w' := keepOn_grown hg fun b hb => ⟨(h4 b hb).2.1, (h4 b hb).2.2⟩
  refine ⟨ls ++ [l], by simp [h1], ?_, fun k l' x hl hx => ?_, fun b hb => ⟨(h4 b hb).1, Nat.lt_of_lt_of_le (h4 b hb).2.1 hg.size, ?_⟩⟩
  · rw [List.flatMap_append, List.length_append]
    simpa using ho
  · rcases Nat.lt_or_ge k xs.length with hlt | hge
    · rw [List.getElem?_append_left (by omega)] at hl hx
      exact ExV.mono _ _ _ _ _ _ (fun _ q => q) hk (h3 k l' x hl hx)
    · have hk0 : k = xs.length := by
        have := (List.getElem?_eq_some_iff.1 hx).1
        simp at this
        omega
      subst hk0
      rw [List.getElem?_append_right (by omega)] at hl hx
      simp [h1] at hl hx
      subst hl
      subst hx
      exact ExV.mono _ _ _ _ _ _ (fun _ q => q) hk hy
  · rcases hv with e | e
    · rw [e]; exact (h4 b hb).2.2
    · rw [e]
      intro q
      injection q with q
      have := (h4 b hb).2.1
      omega
/-- The expressions as a row that can be read. -/
theorem XOwn.rw {w : World} {base c : Nat} {T S : Nat → Prop} {A : Option Addr} {n : Nat} {xs : List Ex} (h : XOwn w base T (.slice A n c) xs) (hn : xs.length = n) (hS : ∀ b, base ≤ b → b < w.heap.size → S b) : Rw ExV 4 w S A n xs := by
  obtain ⟨ls, h1, h2, h3, h4⟩ := h
  subst hn
  have h0 : Rw (fun _ _ cs l => cs = XL.cells l) 4 w S A ls.length ls := Rw.of_own (f := XL.cells) (base := base) (e := 25) (c := c) (by rw [h1]; exact h2) rfl (fun _ _ => rfl) (fun _ _ => rfl) hS
  refine ⟨rfl, fun hpos => ?_⟩
  obtain ⟨b, o, e, hb, hr⟩ := h0.2 (by omega)
  refine ⟨b, o, e, hb, fun k x hx => ?_⟩
  have hk := (List.getElem?_eq_some_iff.1 hx).1
  obtain ⟨cs, hl, rfl, hat⟩ := hr k _ (List.getElem?_eq_getElem (show k < ls.length by omega))
  exact ⟨_, hl, ExV.mono _ _ _ _ _ _ (fun b q => hS b (h4 b q).1 (h4 b q).2.1) (KeepOn.refl _ _) (h3 k _ x (List.getElem?_eq_getElem (show k < ls.length by omega)) hx), hat⟩

/-- Append, and that nothing but the row's own block may have changed. -/
theorem step_append_grown {P : Program} {w : World} {ops : Array Oper} {o : Oper} {a : Act} {K : Act → World → Prop} {Q : Exit → Act → World → Prop} {E : Prop} (s x : Operand) (t : TypeId)
    {base : Nat} {e : TypeId} {i : TypeInfo} {z : Value} {size bytes : Nat} {v : Value} {n : Nat} {xs : List Value} {A : Option Addr} {m c : Nat} {news : List Value} (hgd : o.guard = Option.none)
    (ho : o.op = .call { callee := .builtin .append, args := #[s, x], argTypes := #[t, t] })
    (ht : P.underlying t = some (.slice e)) (hi : P.info? e = some i) (hz : i.zero = some z) (hsize : i.size = size) (hby : i.bytes = bytes) (hzs : z.cells.size = size) (hsz : 0 < size)
    (hs : a.eval s = v) (hown : w.ownsRow base e size v n xs) (hx : a.eval x = .slice A m c) (hr : Src w size A m news) (h1 : ∀ u ∈ news, u.oneCell' = true)
    (h63 : n + m ≤ maxLen) (hbytes : (n + m) * bytes ≤ 140737488355328) (hbase : base ≤ w.heap.size)
    (h : ∀ v' w', w'.ownsRow base e size v' (n + m) (xs ++ news) → w.grownBy w' v.ownBlock → (v'.ownBlock = v.ownBlock ∨ v'.ownBlock = some w.heap.size) → K (a.put o.dst v') w') :
    if Region.wanted o (yielded ops a.tmps) = true then Oper.wp P o a w K Q else E := by
  have hw : Region.wanted o (yielded ops a.tmps) = true := by simp [Region.wanted, hgd]
  rw [if_pos hw]
  obtain ⟨v', w', hrun, h2, h3, h4⟩ := run_append_src (P := P) w base t o.type e i z size bytes ht hi hz hsize hby hzs hsz v n xs hown A m c news hr h1 h63 hbytes hbase
  unfold Oper.wp execOp
  simp only [ho, resolve, invoke, builtin, Sem.run_bind, Sem.run_pure, Result.andThen_ok, List.map_toArray, List.map_cons, List.map_nil, hs, hx, hrun]
  exact h v' w' h2 h3 h4
theorem wpList_append_grown {P : Program} {w : World} {ops : Array Oper} {rest : List Oper} {o : Oper} {a : Act} {Q : Exit → Act → World → Prop} (s x : Operand) (t : TypeId)
    {base : Nat} {e : TypeId} {i : TypeInfo} {z : Value} {size bytes : Nat} {v : Value} {n : Nat} {xs : List Value} {A : Option Addr} {m c : Nat} {news : List Value} (hgd : o.guard = Option.none)
    (ho : o.op = .call { callee := .builtin .append, args := #[s, x], argTypes := #[t, t] })
    (ht : P.underlying t = some (.slice e)) (hi : P.info? e = some i) (hz : i.zero = some z) (hsize : i.size = size) (hby : i.bytes = bytes) (hzs : z.cells.size = size) (hsz : 0 < size)
    (hs : a.eval s = v) (hown : w.ownsRow base e size v n xs) (hx : a.eval x = .slice A m c) (hr : Src w size A m news) (h1 : ∀ u ∈ news, u.oneCell' = true)
    (h63 : n + m ≤ maxLen) (hbytes : (n + m) * bytes ≤ 140737488355328) (hbase : base ≤ w.heap.size)
    (h : ∀ v' w', w'.ownsRow base e size v' (n + m) (xs ++ news) → w.grownBy w' v.ownBlock → (v'.ownBlock = v.ownBlock ∨ v'.ownBlock = some w.heap.size) → wpList P ops Q rest (a.put o.dst v') w') : wpList P ops Q (o :: rest) a w :=
  wpList_plain hgd fun _ hK => by
    obtain ⟨v', w', hrun, h2, h3, h4⟩ := run_append_src (P := P) w base t o.type e i z size bytes ht hi hz hsize hby hzs hsz v n xs hown A m c news hr h1 h63 hbytes hbase
    unfold Oper.wp execOp
    simp only [ho, resolve, invoke, builtin, Sem.run_bind, Sem.run_pure, Result.andThen_ok, List.map_toArray, List.map_cons, List.map_nil, hs, hx, hrun]
    exact hK _ _ (h v' w' h2 h3 h4)
/-- A block of cells just made, as a source. -/
theorem src_box (w : World) (cs : List Value) (t : TypeId) (size n : Nat) (hn : cs.length = n * size) : Src (w.alloc (Obj.cells cs.toArray t)) size (some ⟨w.heap.size, 0, Option.none⟩) n cs := by
  refine ⟨hn, fun _ => ⟨_, rfl, fun j u hu => ?_⟩⟩
  rw [Addr.add_mid, Nat.zero_add]
  have h2 := cell_of_row (w.alloc (Obj.cells cs.toArray t)) w.heap.size j _ t (0, 0) (heap_alloc_new w _)
  rw [h2]
  simpa using hu
theorem xl_one (l : XL) : ∀ u ∈ l.cells, u.oneCell' = true := by
  intro u hu
  simp only [XL.cells, List.mem_cons, List.not_mem_nil, or_false] at hu
  rcases hu with rfl | rfl | rfl | rfl <;> rfl
theorem PS.drew {pb : Nat} {A : Option Addr} {c : Nat} {L : List Tok} {i : Nat} {late : Int} {w : World} (h : PS pb A c L i late w) : PS pb A c L i late w.drew := h.below (below_drew (Below.refl _ _))
theorem grown_drew (w : World) (row : Option Nat) : w.grownBy w.drew row := grown_of_below (below_drew (Below.refl _ _))
/-- A part's place is kept by what changes new blocks only. -/
theorem Left.own {pb : Nat} {A : Option Addr} {c : Nat} {L : List Tok} {j : Nat} {late : Int} {w w' w'' : World} {row : Option Nat} (h : Left pb A c L j late w w') (hg : w'.grownBy w'' row) (hr : ∀ b, row = some b → w.heap.size ≤ b) (hp : pb < w.heap.size) : Left pb A c L j late w w'' :=
  ⟨⟨hg.os.trans h.1.os, hg.tape.trans h.1.tape, hg.output.trans h.1.output, Nat.le_trans h.1.size hg.size, fun k hk hn => (hg.block k (Nat.lt_of_lt_of_le hk h.1.size) (fun q => by have := hr k q.symm; omega)).trans (h.1.block k hk hn)⟩,
    (hg.block pb h.lt (fun q => by have := hr pb q.symm; omega)).trans h.2⟩
theorem Left.late {pb : Nat} {A : Option Addr} {c : Nat} {L : List Tok} {j : Nat} {late : Int} {w w' : World} (h : Left pb A c L j late w w') (late' : Int) : Left pb A c L j late' w (w'.setCell ⟨pb, 2, Option.none⟩ (.int .i64 late')) :=
  ⟨h.1.trans (grown_set w' pb 2 _), by have := heap_setCell_same w' pb 2 _ _ (.int .i64 late') h.2; rw [this]; rfl⟩
/-- An expression's variable: one cell stored anew. -/
theorem XV.set1 {w : World} {b : Nat} {op n : Int} {nm : List UInt8} {A : Option Addr} {k c : Nat} (h : XV w b op n nm A k c) (n' : Int) : XV (w.setCell ⟨b, 1, Option.none⟩ (.int .i64 n')) b op n' nm A k c := ⟨by have := heap_setCell_same w b 1 _ _ (.int .i64 n') h.heap; rw [this]; rfl⟩
theorem XV.set3 {w : World} {b : Nat} {op n : Int} {nm : List UInt8} {A : Option Addr} {k c : Nat} (h : XV w b op n nm A k c) (A' : Option Addr) (k' c' : Nat) : XV (w.setCell ⟨b, 3, Option.none⟩ (.slice A' k' c')) b op n nm A' k' c' := ⟨by have := heap_setCell_same w b 3 _ _ (.slice A' k' c') h.heap; rw [this]; rfl⟩
theorem XV.other {w : World} {b : Nat} {op n : Int} {nm : List UInt8} {A : Option Addr} {k c : Nat} (h : XV w b op n nm A k c) {q i : Nat} (v : Value) (hne : b ≠ q) : XV (w.setCell ⟨q, i, Option.none⟩ v) b op n nm A k c := h.grown (grown_set w q i v) (fun e => hne (by injection e))
end Go.Proofs.YtmbmngnnfkdngaaGreatDoor
