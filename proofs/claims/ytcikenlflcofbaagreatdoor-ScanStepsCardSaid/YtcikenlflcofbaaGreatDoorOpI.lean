/-
  Lists of ints, and lists of them, that the form reads are such in the words of the other texts.
-/
import Derived.Test.YtcikenlflcofbaaGreatDoorOpS
import Derived.Test.YtcikenlflcofbaaGreatDoorRun
namespace Go.Proofs.YtcikenlflcofbaaGreatDoor
open Go.RowKit Go.Deep
theorem cellsInt1 : Tryz.prog.cellsOf 3 = 1 := by kernel_rfl
theorem cellsInts1 : Tryz.prog.cellsOf 38 = 1 := by kernel_rfl
def IaCs (w : World) (_ : Nat) (cs : List Value) (b : Int) : Prop := IaC w (fun _ => True) cs b
def LsCs (w : World) (_ : Nat) (cs : List Value) (x : List Int) : Prop := LsC w (fun b => b < w.heap.size) cs x
section
variable {H : Type} {enc : TypeId × Value → H} {w : World} {base : Nat} {spare : Nat → Bool} {held : Bool}
theorem ints_trod {fuel : Nat} {cs : List Value} {x : DataW H × List MemPlace} (h : DataW.trod enc Tryz.prog w base spare held fuel 38 cs = some x) :
    ∃ (A : Option Addr) (c : Nat) (es : List Int), cs = [.slice A es.length c] ∧ es.length ≤ c ∧ c ≤ maxLen ∧ Rw IaC 1 w (fun b => b < w.heap.size) A es.length es := by
  obtain ⟨es, A, c, rfl, h1, h2, h3⟩ := sliceOf_trod (R := IaCs) (by decide) Tryz.underlying38 cellsInt1 (fun n ds y _ hy => by obtain ⟨b, hb, _⟩ := DataW.trod_int Tryz.underlying3 hy; exact ⟨b, hb⟩) h
  exact ⟨A, c, es, rfl, h1, h2, rw_of_rws h3 fun _ _ q => q⟩
theorem lists_trod {fuel : Nat} {cs : List Value} {x : DataW H × List MemPlace} (h : DataW.trod enc Tryz.prog w base spare held fuel 24 cs = some x) :
    ∃ (A : Option Addr) (c : Nat) (es : List (List Int)), cs = [.slice A es.length c] ∧ es.length ≤ c ∧ c ≤ maxLen ∧ Rw LsC 1 w (fun b => b < w.heap.size) A es.length es := by
  obtain ⟨es, A, c, rfl, h1, h2, h3⟩ := sliceOf_trod (R := LsCs) (by decide) Tryz.underlying24 cellsInts1 (fun n ds y _ hy => by obtain ⟨A, c, es, e1, e2, e3, e4⟩ := ints_trod hy; exact ⟨es, A, c, e1, e2, e3, e4⟩) h
  exact ⟨A, c, es, rfl, h1, h2, rw_of_rws h3 fun _ _ q => q⟩
end
end Go.Proofs.YtcikenlflcofbaaGreatDoor
