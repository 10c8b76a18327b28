/-
  A configuration that the form reads is a configuration in the words of the Find text.
-/
import Derived.Test.YtfncnhgopbmabaaDoorOpenRelay
import Derived.Test.YtfncnhgopbmabaaDoorFind
namespace Go.Proofs.YtfncnhgopbmabaaDoor
open Go.RowKit

theorem cellsConfig : Tryd.prog.cellsOf 49 = 6 := by kernel_rfl
theorem cellsRelays : Tryd.prog.cellsOf 47 = 1 := by kernel_rfl
theorem tilesConfig : tiles Tryd.prog 6 49 = true := by kernel_rfl
theorem six_of {l : List Value} (h : l.length = 6) : ∃ a b c d e f, l = [a, b, c, d, e, f] := by
  match l, h with
  | [a, b, c, d, e, f], _ => exact ⟨a, b, c, d, e, f, rfl⟩
section
variable {H : Type} {enc : TypeId × Value → H} {w : World} {base : Nat} {spare : Nat → Bool} {held : Bool}
theorem conf_trod {fuel : Nat} {cs : List Value} {x : DataW H × List MemPlace} (h : DataW.trod enc Tryd.prog w base spare held fuel 49 cs = some x) :
    ∃ (a0 a1 a2 a3 a4 : Value) (A : Option Addr) (c : Nat) (rs : List RelayM), cs = [a0, a1, a2, a3, a4, .slice A rs.length c] ∧ Conf w w.heap.size a0 a1 a2 a3 a4 A c rs := by
  have hone := trod_one _ _ _ _ _ tilesConfig h
  obtain ⟨a0, a1, a2, a3, a4, a5, rfl⟩ := six_of ((trod_len Tryd.underlying49 h).trans cellsConfig)
  obtain ⟨n0, v0, y0, e0, t0⟩ := field_one Tryd.underlying49 h 1 rfl cellsRelays (by rw [cellsConfig]; decide)
  cases e0
  obtain ⟨rs, A, c, e1, h1, h2, h3⟩ := sliceOf_trod (R := RelayC) (by decide) Tryd.underlying47 cellsRelay (fun n ds y _ hy => relayC_trod hy) t0
  cases e1
  exact ⟨a0, a1, a2, a3, a4, A, c, rs, rfl, ⟨hone a0 (by simp), hone a1 (by simp), hone a2 (by simp), hone a3 (by simp), hone a4 (by simp)⟩, ⟨h1, h2⟩, h3⟩
end
end Go.Proofs.YtfncnhgopbmabaaDoor
