/-
  What a part of the reference's reader returns; two and joins.
-/
import Derived.Test.YtmbmngnnfkdngaaGreatDoorRdr
import Derived.Test.YtmbmngnnfkdngaaGreatDoorRdV
namespace Go.Proofs.YtmbmngnnfkdngaaGreatDoor
open Go.RowKit

/-- An expression is returned, the reader is left at s. -/
def RetXR (rb : Nat) (A : Option Addr) (c : Nat) (l : List Tok) (x : Ex) (s : RSt) (w : World) (e : Ending) (w' : World) : Prop :=
  ∃ op n nm A' c' ks, x = .mk op n nm ks ∧ e = .returned (exV op n nm A' ks.length c') ∧ ks.length ≤ c' ∧ c' ≤ maxLen ∧ ExP op n nm ∧ Rw ExV 4 w' (New w w') A' ks.length ks ∧ LeftR rb A c l s w w' ∧ s.i ≤ l.length
/-- What a part of the reader does, at function K. -/
def PartR (rb : Nat) (A : Option Addr) (c : Nat) (t : List UInt8) (l : List Tok) (K : FuncId) (e : RSt → Option (Ex × RSt)) : Prop :=
  ∀ s w y s', RS rb A c t l s w → e s = some (y, s') → Calls Tryz.prog K #[.pointer (some ⟨rb, 0, Option.none⟩)] w (RetXR rb A c l y s' w)
/-- What the reader's level n does. -/
def PartL (rb : Nat) (A : Option Addr) (c : Nat) (t : List UInt8) (l : List Tok) (n : Int) (e : RSt → Option (Ex × RSt)) : Prop :=
  ∀ s w y s', RS rb A c t l s w → e s = some (y, s') → Calls Tryz.prog 42 #[.pointer (some ⟨rb, 0, Option.none⟩), .int .i64 n] w (RetXR rb A c l y s' w)
theorem thenR_some {α β : Type} {r : Option (α × RSt)} {f : α → RSt → Option (β × RSt)} {v : β × RSt} (h : thenR r f = some v) : ∃ x s, r = some (x, s) ∧ f x s = some v := by
  rcases r with _ | ⟨x, s⟩
  · cases h
  · exact ⟨x, s, rfl, h⟩
theorem LeftR.put {rb : Nat} {A : Option Addr} {c : Nat} {l : List Tok} {s : RSt} {w w' : World} (h : LeftR rb A c l s w w') {b : Nat} (hb : w.heap.size ≤ b) (hne : b ≠ rb) (v0 v1 v2 v3 : Value) : LeftR rb A c l s w (set4 w' b v0 v1 v2 v3) := by
  have g := set4_grown w' b v0 v1 v2 v3
  exact ⟨⟨g.os.trans h.1.os, g.tape.trans h.1.tape, g.output.trans h.1.output, Nat.le_trans h.1.size g.size, fun k hk hn => (g.block k (Nat.lt_of_lt_of_le hk h.1.size) (fun q => by injection q; omega)).trans (h.1.block k hk hn)⟩, (g.block rb h.lt (fun q => hne (by injection q with q; exact q.symm))).trans h.2⟩
/-- The result's variable is stored, then returned. -/
theorem RetXR.put {rb : Nat} {A : Option Addr} {c : Nat} {l : List Tok} {w w1 : World} {op n : Int} {nm : List UInt8} {A' : Option Addr} {c' : Nat} {ks : List Ex} {s : RSt} {S : Nat → Prop}
    (h1 : ks.length ≤ c') (h2 : c' ≤ maxLen) (h3 : ExP op n nm) (hr : Rw ExV 4 w1 S A' ks.length ks) (hS : ∀ b, S b → w.heap.size < b ∧ b < w1.heap.size) (hl : LeftR rb A c l s w w1) (hj : s.i ≤ l.length) (hp : rb < w.heap.size) :
    RetXR rb A c l (.mk op n nm ks) s w (.returned (exV op n nm A' ks.length c')) (set4 w1 w.heap.size (.int .i64 op) (.int .i64 n) (.string ⟨nm.toArray⟩) (.slice A' ks.length c')) := by
  have g := set4_grown w1 w.heap.size (.int .i64 op) (.int .i64 n) (.string ⟨nm.toArray⟩) (.slice A' ks.length c')
  have z := set4_size w1 w.heap.size (.int .i64 op) (.int .i64 n) (.string ⟨nm.toArray⟩) (.slice A' ks.length c')
  refine ⟨op, n, nm, A', c', ks, rfl, rfl, h1, h2, h3, ?_, hl.put (Nat.le_refl _) (by omega) _ _ _ _, hj⟩
  refine hr.mono ExV.mono (fun b hb => ?_) (keepOn_grown g fun b hb => ⟨(hS b hb).2, fun q => by have := (hS b hb).1; injection q; omega⟩)
  have := hS b hb
  exact ⟨by omega, by omega⟩
theorem ZB.leftR {rb : Nat} {A : Option Addr} {c : Nat} {l : List Tok} {s : RSt} {w1 w2 : World} {b : Nat} (h : ZB w1 b) (k : LeftR rb A c l s w1 w2) (hne : b ≠ rb) : ZB w2 b := ⟨(k.1.block b (XV.lt h) (fun q => hne (by injection q))).trans (XV.heap h)⟩

/-- Two operands side by side. -/
def pairCells (op n : Int) (nm : List UInt8) (A : Option Addr) (k c : Nat) (op2 n2 : Int) (nm2 : List UInt8) (A2 : Option Addr) (k2 c2 : Nat) : Obj :=
  .cells #[.int .i64 op, .int .i64 n, .string ⟨nm.toArray⟩, .slice A k c, .int .i64 op2, .int .i64 n2, .string ⟨nm2.toArray⟩, .slice A2 k2 c2] 25 (0, 0)
def RetPair2 (opn : Int) (o : Obj) (w : World) (e : Ending) (w' : World) : Prop := ∃ b, e = .returned (exV opn 0 [] (some ⟨b, 0, Option.none⟩) 2 2) ∧ Below w.heap.size w w' ∧ w.heap.size ≤ b ∧ b < w'.heap.size ∧ w'.heap[b]? = some o
set_option maxRecDepth 100000 in
set_option maxHeartbeats 4000000 in
theorem two_any (opn : Int) (op n : Int) (nm : List UInt8) (A : Option Addr) (k c : Nat) (op2 n2 : Int) (nm2 : List UInt8) (A2 : Option Addr) (k2 c2 : Nat) (w : World) :
    Calls Tryz.prog 66 #[.int .i64 opn, exV op n nm A k c, exV op2 n2 nm2 A2 k2 c2] w (RetPair2 opn (pairCells op n nm A k c op2 n2 nm2 A2 k2 c2) w) := by
  unfold exV
  have hb1 := box_below w (Obj.cells #[.int .i64 op, .int .i64 n, .string ⟨nm.toArray⟩, .slice A k c] 25)
  have hb2 := box_below (w.alloc (Obj.cells #[.int .i64 op, .int .i64 n, .string ⟨nm.toArray⟩, .slice A k c] 25)) (Obj.cells #[.int .i64 op2, .int .i64 n2, .string ⟨nm2.toArray⟩, .slice A2 k2 c2] 25)
  have hb3 := box_below ((w.alloc (Obj.cells #[.int .i64 op, .int .i64 n, .string ⟨nm.toArray⟩, .slice A k c] 25)).alloc (Obj.cells #[.int .i64 op2, .int .i64 n2, .string ⟨nm2.toArray⟩, .slice A2 k2 c2] 25)) (Obj.cells #[.int .i64 0, .int .i64 0, .string ⟨#[]⟩, .slice Option.none 0 0] 25)
  have hBB := (hb1.trans (hb2.mono hb1.size)).trans (hb3.mono (Nat.le_trans hb1.size hb2.size))
  clear hb1 hb2 hb3
  have HBB := Lib.hid hBB
  clear hBB
  go_enter Tryz.func66, Tryz.ntmps66
  go_wp2_with fail
  obtain ⟨V, hV⟩ : ∃ V, ((w.alloc (Obj.cells #[.int .i64 op, .int .i64 n, .string ⟨nm.toArray⟩, .slice A k c] 25)).alloc (Obj.cells #[.int .i64 op2, .int .i64 n2, .string ⟨nm2.toArray⟩, .slice A2 k2 c2] 25)).alloc (Obj.cells #[.int .i64 opn, .int .i64 0, .string ⟨#[]⟩, .slice (some ⟨w.heap.size + 1 + 1 + 1, 0, Option.none⟩) 2 2] 25) = V := ⟨_, rfl⟩
  have hX : XV V (w.heap.size + 1 + 1) opn 0 [] (some ⟨w.heap.size + 1 + 1 + 1, 0, Option.none⟩) 2 2 := by
    have := XV.new ((w.alloc (Obj.cells #[.int .i64 op, .int .i64 n, .string ⟨nm.toArray⟩, .slice A k c] 25)).alloc (Obj.cells #[.int .i64 op2, .int .i64 n2, .string ⟨nm2.toArray⟩, .slice A2 k2 c2] 25)) opn 0 [] (some ⟨w.heap.size + 1 + 1 + 1, 0, Option.none⟩) 2 2
    simp only [World.size_alloc] at this
    rw [← hV]
    exact this
  have hs : V.heap.size = w.heap.size + 1 + 1 + 1 := by rw [← hV]; simp only [World.size_alloc]
  have hB : Below w.heap.size w V := by
    rw [← hV]
    exact (((Below.refl _ w).alloc (Nat.le_refl _) _).alloc (by rw [World.size_alloc]; omega) _).alloc (by simp only [World.size_alloc]; omega) _
  rw [hV]
  clear hV HBB
  obtain ⟨x0, x1, x2, x3, -, -, -, -⟩ := hX.cells
  have hlt := hX.lt
  refine bodyPost_ret (v := exV opn 0 [] (some ⟨w.heap.size + 1 + 1 + 1, 0, Option.none⟩) 2 2) (by simp [results, Tryz.results66, go_sem, exV, x0, x1, x2, x3, hlt]) rfl ⟨_, rfl, hB.alloc (by omega) _, by omega, by rw [World.size_alloc]; omega, ?_⟩
  have := heap_alloc_new V (pairCells op n nm A k c op2 n2 nm2 A2 k2 c2)
  rw [hs] at this
  exact this

theorem two_agg (opn : Int) (op n : Int) (nm : List UInt8) (A : Option Addr) (k c : Nat) (op2 n2 : Int) (nm2 : List UInt8) (A2 : Option Addr) (k2 c2 : Nat) (w : World) :
    Calls Tryz.prog 66 #[.int .i64 opn, .agg #[.int .i64 op, .int .i64 n, .string ⟨nm.toArray⟩, .slice A k c], .agg #[.int .i64 op2, .int .i64 n2, .string ⟨nm2.toArray⟩, .slice A2 k2 c2]] w (RetPair2 opn (pairCells op n nm A k c op2 n2 nm2 A2 k2 c2) w) := two_any opn op n nm A k c op2 n2 nm2 A2 k2 c2 w
/-- The words of a level and their operations, in new blocks. -/
structure JnAt (w : World) (b c : Nat) (ops : List (List UInt8)) : Prop where
  words : w.heap[b]? = some (.cells (ops.map fun l => Value.string ⟨l.toArray⟩).toArray 9 (0, 0))
  ops : w.heap[c]? = some (.cells (ops.map fun l => Value.int .i64 (operationP l)).toArray 3 (0, 0))
theorem JnAt.keep {S : Nat → Prop} {w w' : World} {b c : Nat} {ops : List (List UInt8)} (h : JnAt w b c ops) (hk : KeepOn S w w') (hb : S b) (hc : S c) : JnAt w' b c ops := ⟨(hk b hb).trans h.words, (hk c hc).trans h.ops⟩
theorem JnAt.word {w : World} {b c : Nat} {ops : List (List UInt8)} (h : JnAt w b c ops) {k : Nat} {l : List UInt8} (hk : ops[k]? = some l) : w.cell? ⟨b, k, Option.none⟩ = some (.string ⟨l.toArray⟩) := by
  rw [cell_of_row w b k _ _ (0, 0) h.words]
  simp [hk]
theorem JnAt.op {w : World} {b c : Nat} {ops : List (List UInt8)} (h : JnAt w b c ops) {k : Nat} {l : List UInt8} (hk : ops[k]? = some l) : w.cell? ⟨c, k, Option.none⟩ = some (.int .i64 (operationP l)) := by
  rw [cell_of_row w c k _ _ (0, 0) h.ops]
  simp [hk]
theorem JnAt.lt {w : World} {b c : Nat} {ops : List (List UInt8)} (h : JnAt w b c ops) : b < w.heap.size ∧ c < w.heap.size := ⟨(Array.getElem?_eq_some_iff.1 h.words).1, (Array.getElem?_eq_some_iff.1 h.ops).1⟩
def RetJn (ops : List (List UInt8)) (w : World) (e : Ending) (w' : World) : Prop := ∃ b c, e = .returned (.tuple #[.slice (some ⟨b, 0, Option.none⟩) ops.length ops.length, .slice (some ⟨c, 0, Option.none⟩) ops.length ops.length]) ∧ JnAt w' b c ops ∧ w.heap.size ≤ b ∧ w.heap.size ≤ c ∧ Below w.heap.size w w'
theorem jn_new (w : World) (ops : List (List UInt8)) : JnAt ((w.alloc (.cells (ops.map fun l => Value.string ⟨l.toArray⟩).toArray 9)).alloc (.cells (ops.map fun l => Value.int .i64 (operationP l)).toArray 3)) w.heap.size (w.heap.size + 1) ops := by
  refine ⟨(Below.heap_alloc _ _ _ (by rw [World.size_alloc]; omega)).trans (heap_alloc_new w _), ?_⟩
  have h := heap_alloc_new (w.alloc (.cells (ops.map fun l => Value.string ⟨l.toArray⟩).toArray 9)) (.cells (ops.map fun l => Value.int .i64 (operationP l)).toArray 3)
  rw [World.size_alloc] at h
  exact h
theorem jn_of (w : World) (ops : List (List UInt8)) (W O : Array Value) (h1 : W = (ops.map fun l => Value.string ⟨l.toArray⟩).toArray) (h2 : O = (ops.map fun l => Value.int .i64 (operationP l)).toArray) : JnAt ((w.alloc (.cells W 9)).alloc (.cells O 3)) w.heap.size (w.heap.size + 1) ops := by
  subst h1
  subst h2
  exact jn_new w ops
theorem opW : operationP [111, 114] = 6 ∧ operationP [120, 111, 114] = 7 ∧ operationP [97, 110, 100] = 5 ∧ operationP [43] = 11 ∧ operationP [45] = 12 ∧ operationP [60] = 8 ∧ operationP [62] = 9 ∧ operationP [61] = 10 := by decide
def LevOps (n : Int) (ops : List (List UInt8)) : Prop := (n = 0 ∧ ops = [[111, 114]]) ∨ (n = 1 ∧ ops = [[120, 111, 114]]) ∨ (n = 2 ∧ ops = [[97, 110, 100]]) ∨ (n = 4 ∧ ops = [[43], [45]])
set_option maxRecDepth 100000 in
set_option maxHeartbeats 4000000 in
theorem joins_any {n : Int} {ops : List (List UInt8)} (h : LevOps n ops) (w : World) : Calls Tryz.prog 64 #[.int .i64 n] w (RetJn ops w) := by
  rcases h with ⟨rfl, rfl⟩ | ⟨rfl, rfl⟩ | ⟨rfl, rfl⟩ | ⟨rfl, rfl⟩
  all_goals
    go_enter Tryz.func64, Tryz.ntmps64
    go_wp2
    refine bodyPost_ret (v := .tuple #[.slice (some ⟨w.heap.size, 0, Option.none⟩) _ _, .slice (some ⟨w.heap.size + 1, 0, Option.none⟩) _ _]) (by simp [results, Tryz.results64, go_sem]) rfl ⟨_, _, rfl, jn_of w _ _ _ rfl (by simp [opW]), Nat.le_refl _, by omega, ?_⟩
    exact ((Below.refl _ w).alloc (Nat.le_refl _) _).alloc (by rw [World.size_alloc]; omega) _
end Go.Proofs.YtmbmngnnfkdngaaGreatDoor
