/-
  Signals that the form reads are such in the words of the other texts.
-/
import Derived.Test.YtmbmngnnfkdngaaDoorOpenX
import Derived.Test.YtmbmngnnfkdngaaDoorTable
namespace Go.Proofs.YtmbmngnnfkdngaaDoor
open Go.RowKit Go.Deep

theorem cellsSg : Tryd.prog.cellsOf 37 = 2 := by kernel_rfl
theorem two_cells {l : List Value} (h : l.length = 2) : ∃ a b, l = [a, b] := by
  match l, h with
  | [a, b], _ => exact ⟨a, b, rfl⟩
def SgCs (w : World) (_ : Nat) (cs : List Value) (s : Sg) : Prop := SgC w (fun _ => True) cs s
theorem rw_of_rws {α : Type} {R : World → Nat → List Value → α → Prop} {R' : World → (Nat → Prop) → List Value → α → Prop} {size n : Nat} {w : World} {A : Option Addr} {xs : List α} (h : Rws R size w w.heap.size A n xs) (hR : ∀ cs x, R w w.heap.size cs x → R' w (fun b => b < w.heap.size) cs x) : Rw R' size w (fun b => b < w.heap.size) A n xs := by
  refine ⟨h.1, fun hn => ?_⟩
  obtain ⟨b, o, e, hb, hr⟩ := h.2 hn
  refine ⟨b, o, e, hb, fun k x hx => ?_⟩
  obtain ⟨cs, h1, h2, h3⟩ := hr k x hx
  exact ⟨cs, h1, hR cs x h2, h3⟩

section
variable {H : Type} {enc : TypeId × Value → H} {w : World} {base : Nat} {spare : Nat → Bool} {held : Bool}
theorem sg_trod {fuel : Nat} {cs : List Value} {x : DataW H × List MemPlace} (h : DataW.trod enc Tryd.prog w base spare held fuel 37 cs = some x) : ∃ z, SgCs w w.heap.size cs z := by
  obtain ⟨a, b, rfl⟩ := two_cells ((trod_len Tryd.underlying37 h).trans cellsSg)
  obtain ⟨n0, v0, y0, e0, t0⟩ := field_one Tryd.underlying37 h 0 rfl cellsStr (by rw [cellsSg]; decide)
  obtain ⟨n1, v1, y1, e1, t1⟩ := field_one Tryd.underlying37 h 1 rfl cellsInt (by rw [cellsSg]; decide)
  cases e0; cases e1
  obtain ⟨s, p0, _, w0⟩ := DataW.trod_string Tryd.underlying9 t0
  obtain ⟨n, p1, _, w1⟩ := DataW.trod_int Tryd.underlying3 t1
  cases p0; cases p1
  obtain ⟨⟨nm⟩⟩ := s
  exact ⟨⟨nm, n⟩, rfl, by simpa [ByteArray.size] using w0, w1⟩
theorem sgs_trod {fuel : Nat} {cs : List Value} {x : DataW H × List MemPlace} (h : DataW.trod enc Tryd.prog w base spare held fuel 38 cs = some x) :
    ∃ (A : Option Addr) (c : Nat) (es : List Sg), cs = [.slice A es.length c] ∧ es.length ≤ c ∧ c ≤ maxLen ∧ Rw SgC 2 w (fun b => b < w.heap.size) A es.length es := by
  obtain ⟨es, A, c, rfl, h1, h2, h3⟩ := sliceOf_trod (R := SgCs) (by decide) Tryd.underlying38 cellsSg (fun n ds y _ hy => sg_trod hy) h
  exact ⟨A, c, es, rfl, h1, h2, rw_of_rws h3 fun _ _ q => q⟩
end
end Go.Proofs.YtmbmngnnfkdngaaDoor
