/-
  BytecodeExamples: the law's call returns true.
-/
import Derived.Test.YtcikenlflcofbaaDoorK27
namespace Go.Proofs.YtcikenlflcofbaaDoor
open Go.RowKit

def RetV (a er : Int) (w : World) (e : Ending) (w' : World) : Prop := e = .returned (.tuple #[.int .i64 a, .int .i64 er]) ∧ Below w.heap.size w w'
theorem rw_none {α : Type} {R : World → (Nat → Prop) → List Value → α → Prop} {size : Nat} {w : World} {S : Nat → Prop} {A : Option Addr} : Rw R size w S A 0 [] := ⟨rfl, fun h => absurd h (Nat.lt_irrefl 0)⟩
def rLit : List (List UInt8) := [[114]]
theorem ver_rc (W : World) (code : List Ins) (cs : Array Value) (hcs : cs.toList = code.flatMap insC) (hl : cs.size = code.length * 2) (hn : code.length ≤ 100) {a m er : Int} (hv : verP ⟨[], rLit, [], code⟩ = (a, m, er)) {n : Nat} (hcn : code.length = n) :
    Calls Tryd.prog 14 #[.agg #[.slice Option.none 0 0, .slice (some ⟨W.heap.size, 0, Option.none⟩) 1 1, .slice Option.none 0 0, .slice (some ⟨W.heap.size + 1, 0, Option.none⟩) n n]] ((W.alloc (Obj.cells #[nmV [114]] 9)).alloc (Obj.cells cs 37))
      (RetV a er W) := by
  subst hcn
  have hb1 := box_below W (Obj.cells #[nmV [114]] 9)
  have hb2 := box_below (W.alloc (Obj.cells #[nmV [114]] 9)) (Obj.cells cs 37)
  have h2 := rw_box (R := NmC) (size := 1) W 9 rLit (fun s => [nmV s]) #[nmV [114]] rfl rfl (by decide) (fun _ _ => rfl) (fun x hx => by
    have : x = [114] := List.mem_singleton.1 hx
    subst this
    exact ⟨rfl, by decide⟩)
  have h4 := rw_box (R := InC) (size := 2) (W.alloc (Obj.cells #[nmV [114]] 9)) 37 code insC cs hcs hl (by unfold maxLen; omega) (fun _ _ => rfl) (fun x hx => rfl)
  rw [World.size_alloc W (Obj.cells #[nmV [114]] 9)] at h4
  have h2' := h2.mono NmC.mono (fun b q => Nat.lt_of_lt_of_le q hb2.size) (keepOn_below hb2 fun b q => q)
  have hp : PgI ((W.alloc (Obj.cells #[nmV [114]] 9)).alloc (Obj.cells cs 37)) (Old ((W.alloc (Obj.cells #[nmV [114]] 9)).alloc (Obj.cells cs 37))) ⟨[], rLit, [], code⟩ ⟨Option.none, 0, some ⟨W.heap.size, 0, Option.none⟩, 1, Option.none, 0, some ⟨W.heap.size + 1, 0, Option.none⟩, code.length⟩ :=
    ⟨Nat.le_refl _, Nat.zero_le _, rw_none, Nat.le_refl _, (show (1 : Nat) ≤ maxLen by decide), h2', Nat.le_refl _, Nat.zero_le _, rw_none, Nat.le_refl _, by show code.length ≤ maxLen; unfold maxLen; omega, h4⟩
  have hc := Verify_any hp
  rw [hv] at hc
  refine hc.mono fun e w' h => ⟨h.1, ?_⟩
  exact below_two (below_two hb1 hb2 hb1.size) h.2 (by rw [World.size_alloc, World.size_alloc]; omega)
theorem ver_c (W : World) (code : List Ins) (cs : Array Value) (hcs : cs.toList = code.flatMap insC) (hl : cs.size = code.length * 2) (hn : code.length ≤ 100) {a m er : Int} (hv : verP ⟨[], [], [], code⟩ = (a, m, er)) {n : Nat} (hcn : code.length = n) :
    Calls Tryd.prog 14 #[.agg #[.slice Option.none 0 0, .slice Option.none 0 0, .slice Option.none 0 0, .slice (some ⟨W.heap.size, 0, Option.none⟩) n n]] (W.alloc (Obj.cells cs 37)) (RetV a er W) := by
  subst hcn
  have hb1 := box_below W (Obj.cells cs 37)
  have h4 := rw_box (R := InC) (size := 2) W 37 code insC cs hcs hl (by unfold maxLen; omega) (fun _ _ => rfl) (fun x hx => rfl)
  have hp : PgI (W.alloc (Obj.cells cs 37)) (Old (W.alloc (Obj.cells cs 37))) ⟨[], [], [], code⟩ ⟨Option.none, 0, Option.none, 0, Option.none, 0, some ⟨W.heap.size, 0, Option.none⟩, code.length⟩ :=
    ⟨Nat.le_refl _, Nat.zero_le _, rw_none, Nat.le_refl _, Nat.zero_le _, rw_none, Nat.le_refl _, Nat.zero_le _, rw_none, Nat.le_refl _, by show code.length ≤ maxLen; unfold maxLen; omega, h4⟩
  have hc := Verify_any hp
  rw [hv] at hc
  exact hc.mono fun e w' h => ⟨h.1, below_two hb1 h.2 hb1.size⟩
theorem ver_r (W : World) {a m er : Int} (hv : verP ⟨[], rLit, [], []⟩ = (a, m, er)) :
    Calls Tryd.prog 14 #[.agg #[.slice Option.none 0 0, .slice (some ⟨W.heap.size, 0, Option.none⟩) 1 1, .slice Option.none 0 0, .slice Option.none 0 0]] (W.alloc (Obj.cells #[nmV [114]] 9)) (RetV a er W) := by
  have hb1 := box_below W (Obj.cells #[nmV [114]] 9)
  have h2 := rw_box (R := NmC) (size := 1) W 9 rLit (fun s => [nmV s]) #[nmV [114]] rfl rfl (by decide) (fun _ _ => rfl) (fun x hx => by
    have : x = [114] := List.mem_singleton.1 hx
    subst this
    exact ⟨rfl, by decide⟩)
  have hp : PgI (W.alloc (Obj.cells #[nmV [114]] 9)) (Old (W.alloc (Obj.cells #[nmV [114]] 9))) ⟨[], rLit, [], []⟩ ⟨Option.none, 0, some ⟨W.heap.size, 0, Option.none⟩, 1, Option.none, 0, Option.none, 0⟩ :=
    ⟨Nat.le_refl _, Nat.zero_le _, rw_none, Nat.le_refl _, (show (1 : Nat) ≤ maxLen by decide), h2, Nat.le_refl _, Nat.zero_le _, rw_none, Nat.le_refl _, Nat.zero_le _, rw_none⟩
  have hc := Verify_any hp
  rw [hv] at hc
  exact hc.mono fun e w' h => ⟨h.1, below_two hb1 h.2 hb1.size⟩

set_option maxRecDepth 100000 in
set_option maxHeartbeats 8000000 in
theorem exa27_any (w : World) (hw : Lw w) : Calls Tryd.prog 4 #[] w (RetB true w) := by
  have V1 := Lib.hid (fun W => ver_rc W [⟨1, 1⟩, ⟨32, 0⟩] #[.int .i64 1, .int .i64 1, .int .i64 32, .int .i64 0] rfl rfl (by decide) (show verP _ = (0, 1, 0) by kernel_rfl) (n := 2) rfl)
  have V2 := Lib.hid (fun W => ver_rc W [⟨2, 1⟩, ⟨32, 0⟩] #[.int .i64 2, .int .i64 1, .int .i64 32, .int .i64 0] rfl rfl (by decide) (show verP _ = (1, 0, 10) by kernel_rfl) (n := 2) rfl)
  have V3 := Lib.hid (fun W => ver_rc W [⟨1, 0⟩] #[.int .i64 1, .int .i64 0] rfl rfl (by decide) (show verP _ = (1, 0, 14) by kernel_rfl) (n := 1) rfl)
  have V4 := Lib.hid (fun W => ver_c W [⟨4, 0⟩] #[.int .i64 4, .int .i64 0] rfl rfl (by decide) (show verP _ = (0, 0, 11) by kernel_rfl) (n := 1) rfl)
  have V5 := Lib.hid (fun W => ver_c W [⟨3, 0⟩] #[.int .i64 3, .int .i64 0] rfl rfl (by decide) (show verP _ = (0, 0, 15) by kernel_rfl) (n := 1) rfl)
  have V6 := Lib.hid (fun W => ver_rc W [⟨1, 0⟩, ⟨1, 0⟩, ⟨32, 0⟩] #[.int .i64 1, .int .i64 0, .int .i64 1, .int .i64 0, .int .i64 32, .int .i64 0] rfl rfl (by decide) (show verP _ = (2, 0, 20) by kernel_rfl) (n := 3) rfl)
  have V7 := Lib.hid (fun W => ver_r W (show verP _ = (0, 0, 11) by kernel_rfl))
  have HW := Lib.hid hw
  clear hw
  go_enter Tryd.func4, Tryd.ntmps4
  go_wp2_with fail
  refine (V1.out _).mono ?_
  rintro e w1 ⟨rfl, hb1⟩
  go_wp2_with fail
  refine (V2.out _).mono ?_
  rintro e w2 ⟨rfl, hb2⟩
  go_wp2_with fail
  refine (V3.out _).mono ?_
  rintro e w3 ⟨rfl, hb3⟩
  go_wp2_with fail
  refine (V4.out _).mono ?_
  rintro e w4 ⟨rfl, hb4⟩
  go_wp2_with fail
  refine (V5.out _).mono ?_
  rintro e w5 ⟨rfl, hb5⟩
  go_wp2_with fail
  refine (V6.out _).mono ?_
  rintro e w6 ⟨rfl, hb6⟩
  go_wp2_with fail
  refine (V7.out _).mono ?_
  rintro e w7 ⟨rfl, hb7⟩
  have h2 := below_two hb1 hb2 hb1.size
  have h3 := below_two h2 hb3 h2.size
  have h4 := below_two h3 hb4 h3.size
  have h5 := below_two h4 hb5 h4.size
  have h6 := below_two h5 hb6 h5.size
  have h7 := below_two h6 hb7 h6.size
  have HKN := Lib.hid (known_any w7 (HW.out.below h7))
  have HB := Lib.hid h7
  clear hb1 hb2 hb3 hb4 hb5 hb6 hb7 h2 h3 h4 h5 h6 h7
  go_wp2_with fail
  refine HKN.out.mono ?_
  rintro e w8 ⟨rfl, hb8⟩
  have HB8 := Lib.hid (below_two HB.out hb8 HB.out.size)
  clear hb8
  go_wp2
  go_ret
  exact ⟨rfl, HB8.out⟩
end Go.Proofs.YtcikenlflcofbaaDoor
