/-
  The sanity check of the laws of layer 27, and the sizes that its laws ask for.
-/
import Derived.Test.YtcikenlflcofbaaGreatDoorCmp
import Derived.Test.YtcikenlflcofbaaGreatDoorVfJ
namespace Go.Proofs.YtcikenlflcofbaaGreatDoor
open Go.RowKit

def kRs : List Rl := [⟨[114], [97, 32, 97, 110, 100, 32, 114, 105, 115, 101, 40, 98, 41]⟩]
def kIn : List Sg := [⟨[97], 1⟩, ⟨[98], 1⟩]
def kPg : Pg := ⟨kIn, [[114]], [⟨17, 0⟩], [⟨30, 0⟩, ⟨30, 1⟩, ⟨17, 0⟩, ⟨5, 0⟩, ⟨32, 0⟩]⟩
theorem kCmp : cmpP kRs kIn = (kPg, 0, 0) := by kernel_rfl
theorem kVer : verP kPg = (0, 2, 0) := by kernel_rfl
def rlL (r : Rl) : List Value := [nmV r.nm, nmV r.text]
/-- Rules and signals in a box. -/
theorem rw_box {α : Type} {R : World → (Nat → Prop) → List Value → α → Prop} {size : Nat} (w : World) (e : TypeId) (xs : List α) (f : α → List Value) (cs : Array Value) (hcs : cs.toList = xs.flatMap f) (hl : cs.size = xs.length * size) (hm : xs.length ≤ maxLen) (hf : ∀ x ∈ xs, (f x).length = size)
    (hR : ∀ x ∈ xs, R (w.alloc (.cells cs e)) (fun b => b < (w.alloc (.cells cs e)).heap.size) (f x) x) : Rw R size (w.alloc (.cells cs e)) (fun b => b < (w.alloc (.cells cs e)).heap.size) (some ⟨w.heap.size, 0, Option.none⟩) xs.length xs := by
  have h := World.ownsRow_lit (e := e) (size := size) w cs xs.length (base := w.heap.size) (Nat.le_refl _) hm hl
  rw [hcs] at h
  exact Rw.of_own h rfl hf hR (fun b _ hb => hb)

theorem RetCmp.of {rs : List Rl} {ins : List Sg} {p : Pg} {a er : Int} {w w' : World} {e : Ending} (hc : cmpP rs ins = (p, a, er)) (h : RetCmp rs ins w e w') :
    ∃ A1 c1 A2 c2 A3 c3 A4 c4, e = .returned (.tuple #[.agg #[.slice A1 p.ins.length c1, .slice A2 p.rls.length c2, .slice A3 p.cells.length c3, .slice A4 p.code.length c4], .int .i64 a, .int .i64 er]) ∧ PgI w' (New w w') p ⟨A1, c1, A2, c2, A3, c3, A4, c4⟩ ∧ Below w.heap.size w w' := by
  obtain ⟨⟨A1, c1, A2, c2, A3, c3, A4, c4⟩, he, hp, hb⟩ := h
  rw [hc] at he hp
  exact ⟨A1, c1, A2, c2, A3, c3, A4, c4, he, hp, hb⟩
end Go.Proofs.YtcikenlflcofbaaGreatDoor
