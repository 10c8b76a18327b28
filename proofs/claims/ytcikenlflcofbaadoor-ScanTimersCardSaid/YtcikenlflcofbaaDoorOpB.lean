/-
  Bools that the form reads are such in the words of the other texts.
-/
import Derived.Test.YtcikenlflcofbaaDoorOpQ
import Derived.Test.YtcikenlflcofbaaDoorOrd
namespace Go.Proofs.YtcikenlflcofbaaDoor
open Go.RowKit Go.Deep
theorem cellsBool : Tryd.prog.cellsOf 4 = 1 := by kernel_rfl
def BoCs (w : World) (_ : Nat) (cs : List Value) (b : Bool) : Prop := BoC w (fun _ => True) cs b
section
variable {H : Type} {enc : TypeId × Value → H} {w : World} {base : Nat} {spare : Nat → Bool} {held : Bool}
theorem bools_trod {fuel : Nat} {cs : List Value} {x : DataW H × List MemPlace} (h : DataW.trod enc Tryd.prog w base spare held fuel 50 cs = some x) :
    ∃ (A : Option Addr) (c : Nat) (es : List Bool), cs = [.slice A es.length c] ∧ es.length ≤ c ∧ c ≤ maxLen ∧ Rw BoC 1 w (fun b => b < w.heap.size) A es.length es := by
  obtain ⟨es, A, c, rfl, h1, h2, h3⟩ := sliceOf_trod (R := BoCs) (by decide) Tryd.underlying50 cellsBool (fun n ds y _ hy => by obtain ⟨b, hb, _⟩ := DataW.trod_bool Tryd.underlying4 hy; exact ⟨b, hb⟩) h
  exact ⟨A, c, es, rfl, h1, h2, rw_of_rws h3 fun _ _ q => q⟩
end
end Go.Proofs.YtcikenlflcofbaaDoor
