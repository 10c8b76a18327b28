/-
  Two arrays of four bools compared.
-/
import Derived.Test.YtcoablindoknpaaDoorNum
import Derived.ChangeKeysEq
namespace Go.Proofs.YtcoablindoknpaaDoor
open Go.RowKit

theorem infoBool : (Tryd.prog.info? 4).map (fun i => (i.zero, i.size, i.bytes)) = some (some (.bool false), 1, 1) := by kernel_rfl
theorem cellsBool1 : Tryd.prog.cellsOf 4 = 1 := by kernel_rfl
theorem eq4 (w : World) (a b c d : Bool) : (Op.equalIn 10000 83 (.agg #[.bool a, .bool b, .bool c, .bool d]) (.agg #[.bool true, .bool true, .bool true, .bool true])).run Tryd.prog w = .ok (a && b && c && d) w := by
  obtain ⟨i0, hi, hz0, hz1, hz2⟩ := info_parts infoBool
  rw [show (10000 : Nat) = 9999 + 1 from rfl, run_equalIn_array w 9999 _ _ Tryd.underlying83 hi, cellsBool1]
  have hr : List.range 4 = [0, 1, 2, 3] := rfl
  rw [hr]
  have hk : Tryd.prog.plainKey 4 = true := by kernel_rfl
  have hp := fun (x y z u : Bool) => (And.intro (run_part_plain w (P := Tryd.prog) hk (xs := #[.bool x, .bool y, .bool z, .bool u]) (off := 0) (v := .bool x) rfl) (And.intro (run_part_plain w (P := Tryd.prog) hk (xs := #[.bool x, .bool y, .bool z, .bool u]) (off := 1) (v := .bool y) rfl)
    (And.intro (run_part_plain w (P := Tryd.prog) hk (xs := #[.bool x, .bool y, .bool z, .bool u]) (off := 2) (v := .bool z) rfl) (run_part_plain w (P := Tryd.prog) hk (xs := #[.bool x, .bool y, .bool z, .bool u]) (off := 3) (v := .bool u) rfl))))
  have he := fun x y => run_equalIn_bool (P := Tryd.prog) w 9998 4 x y Tryd.underlying4
  have p0 := fun x y z u => (hp x y z u).1
  have p1 := fun x y z u => (hp x y z u).2.1
  have p2 := fun x y z u => (hp x y z u).2.2.1
  have p3 := fun x y z u => (hp x y z u).2.2.2
  cases a <;> cases b <;> cases c <;> cases d <;> simp [Op.eqItems, p0, p1, p2, p3, he]
end Go.Proofs.YtcoablindoknpaaDoor
