/-
  The law's sanity check: the first example of the chapter holds.
-/
import Derived.Test.YtmbmngnnfkdngaaGreatDoorSame
namespace Go.Proofs.YtmbmngnnfkdngaaGreatDoor
open Go.RowKit

def exAB : Ex := .mk 6 0 [] [.mk 5 0 [] [.mk 3 0 [97] [], .mk 4 0 [] [.mk 3 0 [98] []]], .mk 3 0 [99] []]
theorem known_parse : parseP [97, 32, 97, 110, 100, 32, 110, 111, 116, 32, 98, 32, 111, 114, 32, 99] = (exAB, 0, 0) := parseP_of (f := 30) (by decide) (by kernel_rfl)
theorem known_fmt : fmtP exAB = [40, 40, 97, 32, 97, 110, 100, 32, 40, 110, 111, 116, 32, 98, 41, 41, 32, 111, 114, 32, 99, 41] := by kernel_rfl

set_option maxRecDepth 100000 in
set_option maxHeartbeats 4000000 in
theorem known_any (w : World) (hw : Lw w) : Calls Tryz.prog 5 #[] w (RetB true w) := by
  have C1 := Parse_any [97, 32, 97, 110, 100, 32, 110, 111, 116, 32, 98, 32, 111, 114, 32, 99] w (by unfold maxLen; decide) hw
  rw [known_parse] at C1
  have HC1 := Lib.hid C1
  have HW := Lib.hid hw
  clear C1 hw
  go_enter Tryz.func5, Tryz.ntmps5
  go_wp2_with fail
  refine HC1.out.mono ?_
  rintro e w1 ⟨op, n, nm, A, c, ks, hx, rfl, hc, hm, hp, hr, hb1⟩
  dsimp only at hx ⊢
  unfold exV
  have hbx := box_below w1 (Obj.cells #[.int .i64 op, .int .i64 n, .string ⟨nm.toArray⟩, .slice A ks.length c] 25)
  have C2 := Format_any op n nm A c ks (w1.alloc (Obj.cells #[.int .i64 op, .int .i64 n, .string ⟨nm.toArray⟩, .slice A ks.length c] 25)) hc hm hp (hr.mono ExV.mono (fun b hb => by have := hb.2; simp only [World.size_alloc]; omega) (keepOn_below hbx fun b hb => hb.2)) ((HW.out.below hb1).below hbx)
  rw [← hx, known_fmt] at C2
  unfold exV at C2
  have HC2 := Lib.hid C2
  have HB := Lib.hid (below_two hb1 hbx hb1.size)
  have hs1 := HB.out.size
  clear C2 hx hr hb1 hbx HC1
  go_wp2_with fail
  refine HC2.out.mono ?_
  rintro e w2 ⟨rfl, hb2⟩
  go_wp2
  go_ret
  exact ⟨rfl, below_two HB.out hb2 hs1⟩
end Go.Proofs.YtmbmngnnfkdngaaGreatDoor
