/-
  Words for memory over a set of blocks: rows of elements, expressions laid in memory as trees, tokens, the parser's variable. What a later world keeps of them.
-/
import Derived.Test.YtmbmngnnfkdngaaGreatDoorBase
import Derived.Test.YtmbmngnnfkdngaaGreatDoorEqP
namespace Go.Proofs.YtmbmngnnfkdngaaGreatDoor
open Go.RowKit

/-- The blocks of S are as they were. -/
def KeepOn (S : Nat → Prop) (w w' : World) : Prop := ∀ b, S b → w'.heap[b]? = w.heap[b]?
theorem KeepOn.refl (S : Nat → Prop) (w : World) : KeepOn S w w := fun _ _ => rfl
theorem KeepOn.trans {S : Nat → Prop} {a b c : World} (h : KeepOn S a b) (k : KeepOn S b c) : KeepOn S a c := fun i hi => (k i hi).trans (h i hi)
theorem KeepOn.mono {S T : Nat → Prop} {a b : World} (h : KeepOn T a b) (hs : ∀ i, S i → T i) : KeepOn S a b := fun i hi => h i (hs i hi)
theorem keepOn_below {S : Nat → Prop} {B : Nat} {w w' : World} (h : Below B w w') (hS : ∀ b, S b → b < B) : KeepOn S w w' := fun b hb => h.block b (hS b hb)
theorem keepOn_grown {S : Nat → Prop} {row : Option Nat} {w w' : World} (h : w.grownBy w' row) (hS : ∀ b, S b → b < w.heap.size ∧ some b ≠ row) : KeepOn S w w' := fun b hb => h.block b (hS b hb).1 (hS b hb).2
theorem KeepOn.range {S : Nat → Prop} {w w' : World} {b o : Nat} {cs : List Value} (h : KeepOn S w w') (hb : S b) (hr : w.rangeAt b o cs) : w'.rangeAt b o cs :=
  fun j v hv => (World.cell?_of_block (a := ⟨b, o + j, Option.none⟩) (h b hb)).trans (hr j v hv)

def MonoS {α : Type} (R : World → (Nat → Prop) → List Value → α → Prop) : Prop := ∀ w w' S S' cs x, (∀ b, S b → S' b) → KeepOn S w w' → R w S cs x → R w' S' cs x
/-- A slice's elements, each of size cells, in a block of S. -/
def Rw {α : Type} (R : World → (Nat → Prop) → List Value → α → Prop) (size : Nat) (w : World) (S : Nat → Prop) (A : Option Addr) (n : Nat) (xs : List α) : Prop :=
  xs.length = n ∧ (0 < n → ∃ b o, A = some ⟨b, o, none⟩ ∧ S b ∧ ∀ k x, xs[k]? = some x → ∃ cs, cs.length = size ∧ R w S cs x ∧ w.rangeAt b (o + k * size) cs)
theorem Rw.mono {α : Type} {R : World → (Nat → Prop) → List Value → α → Prop} (hR : MonoS R) {size n : Nat} {S S' : Nat → Prop} {w w' : World} {A : Option Addr} {xs : List α} (hS : ∀ b, S b → S' b) (hk : KeepOn S w w') (h : Rw R size w S A n xs) : Rw R size w' S' A n xs := by
  refine ⟨h.1, fun hn => ?_⟩
  obtain ⟨b, o, e, hb, hr⟩ := h.2 hn
  refine ⟨b, o, e, hS b hb, fun k x hx => ?_⟩
  obtain ⟨cs, hl, hc, hat⟩ := hr k x hx
  exact ⟨cs, hl, hR _ _ _ _ _ _ hS hk hc, hk.range hb hat⟩
theorem Rw.at_ {α : Type} {R : World → (Nat → Prop) → List Value → α → Prop} {size n : Nat} {S : Nat → Prop} {w : World} {A : Option Addr} {xs : List α} (h : Rw R size w S A n xs) {k : Nat} (hk : k < n) :
    ∃ b o cs x, A = some ⟨b, o, none⟩ ∧ S b ∧ xs[k]? = some x ∧ cs.length = size ∧ R w S cs x ∧ w.rangeAt b (o + k * size) cs := by
  obtain ⟨b, o, e, hb, hr⟩ := h.2 (by omega)
  have hl : k < xs.length := by have := h.1; omega
  obtain ⟨cs, h1, h2, h3⟩ := hr k _ (List.getElem?_eq_getElem hl)
  exact ⟨b, o, cs, _, e, hb, List.getElem?_eq_getElem hl, h1, h2, h3⟩
theorem Rw.nil {α : Type} {R : World → (Nat → Prop) → List Value → α → Prop} {size : Nat} {S : Nat → Prop} {w : World} {A : Option Addr} : Rw R size w S A 0 [] := ⟨rfl, fun h => absurd h (Nat.lt_irrefl 0)⟩

def ExP (op n : Int) (nm : List UInt8) : Prop := (Lit.int .i64 op).wf = true ∧ (Lit.int .i64 n).wf = true ∧ nm.length ≤ maxLen
/-- The four cells of an expression, at most d levels deep, its operands in blocks of S. -/
def ExC : Nat → World → (Nat → Prop) → List Value → Ex → Prop
  | 0, _, _, _, _ => False
  | d + 1, w, S, cs, .mk op n nm ks => ∃ A c, cs = [.int .i64 op, .int .i64 n, .string ⟨nm.toArray⟩, .slice A ks.length c] ∧ ks.length ≤ c ∧ c ≤ maxLen ∧ ExP op n nm ∧ Rw (ExC d) 4 w S A ks.length ks
theorem ExC.mono : ∀ d, MonoS (ExC d)
  | 0 => fun _ _ _ _ _ _ _ _ h => h.elim
  | d + 1 => fun w w' S S' cs x hS hk h => by
    obtain ⟨op, n, nm, ks⟩ := x
    obtain ⟨A, c, e, h1, h2, h3, h4⟩ := h
    exact ⟨A, c, e, h1, h2, h3, h4.mono (ExC.mono d) hS hk⟩
theorem Rw.imp {α : Type} {R R' : World → (Nat → Prop) → List Value → α → Prop} {size n : Nat} {S : Nat → Prop} {w : World} {A : Option Addr} {xs : List α} (h : Rw R size w S A n xs) (hR : ∀ cs x, x ∈ xs → R w S cs x → R' w S cs x) : Rw R' size w S A n xs := by
  refine ⟨h.1, fun hn => ?_⟩
  obtain ⟨b, o, e, hb, hr⟩ := h.2 hn
  refine ⟨b, o, e, hb, fun k x hx => ?_⟩
  obtain ⟨cs, hl, hc, hat⟩ := hr k x hx
  exact ⟨cs, hl, hR cs x (List.mem_of_getElem? hx) hc, hat⟩
theorem ExC.deeper : ∀ d w S cs x, ExC d w S cs x → ExC (d + 1) w S cs x
  | 0, _, _, _, _, h => h.elim
  | d + 1, w, S, cs, x, h => by
    obtain ⟨op, n, nm, ks⟩ := x
    obtain ⟨A, c, e, h1, h2, h3, h4⟩ := h
    exact ⟨A, c, e, h1, h2, h3, h4.imp (fun cs y _ hy => ExC.deeper d w S cs y hy)⟩
theorem ExC.le {d d' : Nat} {w : World} {S : Nat → Prop} {cs : List Value} {x : Ex} (hd : d ≤ d') (h : ExC d w S cs x) : ExC d' w S cs x := by
  induction hd with
  | refl => exact h
  | step _ ih => exact ExC.deeper _ _ _ _ _ ih
/-- An expression's cells, of whatever depth. -/
def ExV (w : World) (S : Nat → Prop) (cs : List Value) (x : Ex) : Prop := ∃ d, ExC d w S cs x
theorem ExV.mono : MonoS ExV := fun w w' S S' cs x hS hk ⟨d, h⟩ => ⟨d, ExC.mono d w w' S S' cs x hS hk h⟩
theorem ExV.form {w : World} {S : Nat → Prop} {cs : List Value} {op n : Int} {nm : List UInt8} {ks : List Ex} (h : ExV w S cs (.mk op n nm ks)) :
    ∃ A c, cs = [.int .i64 op, .int .i64 n, .string ⟨nm.toArray⟩, .slice A ks.length c] ∧ ks.length ≤ c ∧ c ≤ maxLen ∧ ExP op n nm ∧ Rw ExV 4 w S A ks.length ks := by
  obtain ⟨d, h⟩ := h
  cases d with
  | zero => exact h.elim
  | succ d =>
    obtain ⟨A, c, e, h1, h2, h3, h4⟩ := h
    exact ⟨A, c, e, h1, h2, h3, h4.imp fun cs y _ hy => ⟨d, hy⟩⟩
theorem rw_ex {n : Nat} {w : World} {S : Nat → Prop} {A : Option Addr} {ks : List Ex} (h : Rw ExV 4 w S A n ks) : ∃ d, Rw (ExC d) 4 w S A n ks := by
  rcases Nat.eq_zero_or_pos n with hn | hn
  · exact ⟨0, h.1, fun h' => absurd h' (by omega)⟩
  · obtain ⟨b, o, e, hb, hr⟩ := h.2 hn
    have key : ∀ m, m ≤ ks.length → ∃ d, ∀ k x, k < m → ks[k]? = some x → ∃ cs, cs.length = 4 ∧ ExC d w S cs x ∧ w.rangeAt b (o + k * 4) cs := by
      intro m
      induction m with
      | zero => exact fun _ => ⟨0, fun k x hk => absurd hk (Nat.not_lt_zero _)⟩
      | succ m ih =>
        intro hm
        obtain ⟨d, hd⟩ := ih (by omega)
        obtain ⟨cs, hl, ⟨d', hc⟩, hat⟩ := hr m _ (List.getElem?_eq_getElem (show m < ks.length by omega))
        refine ⟨max d d', fun k x hk hx => ?_⟩
        rcases Nat.lt_succ_iff_lt_or_eq.1 hk with h' | rfl
        · obtain ⟨cs', a1, a2, a3⟩ := hd k x h' hx
          exact ⟨cs', a1, a2.le (Nat.le_max_left _ _), a3⟩
        · rw [List.getElem?_eq_getElem (show k < ks.length by omega)] at hx
          cases hx
          exact ⟨cs, hl, hc.le (Nat.le_max_right _ _), hat⟩
    obtain ⟨d, hd⟩ := key ks.length (Nat.le_refl _)
    exact ⟨d, h.1, fun _ => ⟨b, o, e, hb, fun k x hx => hd k x (List.getElem?_eq_some_iff.1 hx).1 hx⟩⟩
theorem ExV.mk {w : World} {S : Nat → Prop} {A : Option Addr} {c : Nat} {op n : Int} {nm : List UInt8} {ks : List Ex} (h1 : ks.length ≤ c) (h2 : c ≤ maxLen) (h3 : ExP op n nm) (h4 : Rw ExV 4 w S A ks.length ks) :
    ExV w S [.int .i64 op, .int .i64 n, .string ⟨nm.toArray⟩, .slice A ks.length c] (.mk op n nm ks) := by
  obtain ⟨d, hd⟩ := rw_ex h4
  exact ⟨d + 1, A, c, rfl, h1, h2, h3, hd⟩
/-- An element of a row, field by field. -/
structure XB (w : World) (b o : Nat) (op n : Int) (nm : List UInt8) (A : Option Addr) (k c : Nat) : Prop where
  c0 : w.cell? ⟨b, o, Option.none⟩ = some (.int .i64 op)
  c1 : w.cell? ⟨b, o + 1, Option.none⟩ = some (.int .i64 n)
  c2 : w.cell? ⟨b, o + 2, Option.none⟩ = some (.string ⟨nm.toArray⟩)
  c3 : w.cell? ⟨b, o + 3, Option.none⟩ = some (.slice A k c)
theorem XB.of {w : World} {b o : Nat} {op n : Int} {nm : List UInt8} {A : Option Addr} {k c : Nat} (h : w.rangeAt b o [.int .i64 op, .int .i64 n, .string ⟨nm.toArray⟩, .slice A k c]) : XB w b o op n nm A k c :=
  ⟨by simpa using h 0 _ rfl, h 1 _ rfl, h 2 _ rfl, h 3 _ rfl⟩
theorem exAt {w : World} {S : Nat → Prop} {A : Option Addr} {n : Nat} {ks : List Ex} (h : Rw ExV 4 w S A n ks) {k : Nat} (hk : k < n) :
    ∃ b o op m nm A' c' ys, A = some ⟨b, o, Option.none⟩ ∧ S b ∧ ks[k]? = some (.mk op m nm ys) ∧ ys.length ≤ c' ∧ c' ≤ maxLen ∧ ExP op m nm ∧ Rw ExV 4 w S A' ys.length ys ∧ XB w b (o + k * 4) op m nm A' ys.length c' := by
  obtain ⟨b, o, cs, x, e, hb, hx, _, hv, hat⟩ := h.at_ hk
  obtain ⟨op, m, nm, ys⟩ := x
  obtain ⟨A', c', rfl, h1, h2, h3, h4⟩ := hv.form
  exact ⟨b, o, op, m, nm, A', c', ys, e, hb, hx, h1, h2, h3, h4, XB.of hat⟩

/-- A token's cells. -/
def TokC (_ : World) (_ : Nat → Prop) (cs : List Value) (t : Tok) : Prop := cs = [.int .i64 t.kind, .string ⟨t.text.toArray⟩, .int .i64 t.pos, .int .i64 t.n]
theorem TokC.mono : MonoS TokC := fun _ _ _ _ _ _ _ _ h => h
def tokCells (l : List Tok) : List Value := l.flatMap fun t => [.int .i64 t.kind, .string ⟨t.text.toArray⟩, .int .i64 t.pos, .int .i64 t.n]

/-- Rows that a call owns. -/
theorem Rw.of_own {α : Type} {R : World → (Nat → Prop) → List Value → α → Prop} {size base n c : Nat} {e : TypeId} {w : World} {S : Nat → Prop} {A : Option Addr} {xs : List α} {f : α → List Value}
    (h : w.ownsRow base e size (.slice A n c) n (xs.flatMap f)) (hn : xs.length = n) (hf : ∀ x ∈ xs, (f x).length = size) (hR : ∀ x ∈ xs, R w S (f x) x) (hS : ∀ b, base ≤ b → b < w.heap.size → S b) : Rw R size w S A n xs := by
  have h0 : Rws (fun w' _ cs x => R w' S cs x) size w w.heap.size A n xs := Rws.of_own (f := f) (base := base) (e := e) (c := c) h hn hf hR
  refine ⟨hn, fun hpos => ?_⟩
  obtain ⟨g, cap, hv, hlo, hlt⟩ := h.form hpos
  obtain ⟨b, o, e1, hlt', hr⟩ := h0.2 hpos
  have hA : A = some ⟨g, 0, none⟩ := by injection hv
  subst hA
  injection e1 with e1
  injection e1 with e1 e2
  subst e1
  subst e2
  exact ⟨g, 0, rfl, hS g hlo hlt, hr⟩
end Go.Proofs.YtmbmngnnfkdngaaGreatDoor
