/-
  The law RecorderChanges: for every point and every two lists of bools the call returns true.
-/
import Derived.Test.YtcoablindoknpaaDoorChanges
namespace Go.Proofs.YtcoablindoknpaaDoor
open Go.RowKit

/-- A point's cells. -/
def PB (W : World) (b : Nat) (d q t : Int) : Prop :=
  W.cell? ⟨b, 0, Option.none⟩ = some (.int .i64 d) ∧ W.cell? ⟨b, 1, Option.none⟩ = some (.int .i64 q) ∧ W.cell? ⟨b, 2, Option.none⟩ = some (.int .i64 t)
theorem PB.below {W W' : World} {B b : Nat} {d q t : Int} (h : PB W b d q t) (hb : Below B W W') (hB : b < B) : PB W' b d q t :=
  ⟨(hb.cell (p := ⟨b, 0, Option.none⟩) hB).trans h.1, (hb.cell (p := ⟨b, 1, Option.none⟩) hB).trans h.2.1, (hb.cell (p := ⟨b, 2, Option.none⟩) hB).trans h.2.2⟩
theorem PB.new (w : World) (d q t : Int) (ty : TypeId) : PB (w.alloc (Obj.cells #[.int .i64 d, .int .i64 q, .int .i64 t] ty)) w.heap.size d q t := ⟨by go_simp, by go_simp, by go_simp⟩
theorem chS_max (t d q : Int) (bf af : List Bool) (h : af.length ≤ 60) : (changesS t d q bf af).length ≤ maxLen := by
  have h1 := chS_len t d q bf af af.length
  unfold maxLen changesS
  split <;> simp <;> omega

set_option maxRecDepth 100000 in
set_option maxHeartbeats 4000000 in
theorem lawChanges_any (d q t : Int) (A1 A2 : Option Addr) (c1 c2 B : Nat) (bf af : List Bool) (w : World) (T : Tab w) (hB : B ≤ w.heap.size) (h1 : Rws BoolC 1 w B A1 bf.length bf) (h2 : Rws BoolC 1 w B A2 af.length af) (hb : bf.length ≤ maxLen) (ha : af.length ≤ maxLen) :
    Calls Tryd.prog 5 #[.agg #[.int .i64 d, .int .i64 q, .int .i64 t], .slice A1 bf.length c1, .slice A2 af.length c2] w (RetBool true w) := by
  have HT := Lib.hid T
  have HR1 := Lib.hid h1
  have HR2 := Lib.hid h2
  clear T h1 h2
  have hb' := hb
  have ha' := ha
  unfold maxLen at hb ha
  have P1 := PB.new w d q t 43
  have hw1 := box_below w (Obj.cells #[.int .i64 d, .int .i64 q, .int .i64 t] 43)
  have hz1 := hw1.size
  have l1 : w.heap.size < (w.alloc (Obj.cells #[.int .i64 d, .int .i64 q, .int .i64 t] 43)).heap.size := by simp
  by_cases hfew : bf.length ≤ 60 ∧ af.length ≤ 60
  case neg =>
    have HK := Lib.hid (known_any _ (HT.out.below hw1))
    by_cases hf1 : 60 < bf.length
    · go_enter Tryd.func5, Tryd.ntmps5
      go_wp2_with fail
      refine HK.out.mono ?_
      rintro e' w3 ⟨rfl, hb3⟩
      go_wp2
      go_ret
      exact ⟨rfl, hw1.trans (hb3.mono hz1)⟩
    · have hf2 : 60 < af.length := by omega
      go_enter Tryd.func5, Tryd.ntmps5
      go_wp2_with fail
      refine HK.out.mono ?_
      rintro e' w3 ⟨rfl, hb3⟩
      go_wp2
      go_ret
      exact ⟨rfl, hw1.trans (hb3.mono hz1)⟩
  obtain ⟨hf1, hf2⟩ := hfew
  have hmx := chS_max t d q bf af hf2
  go_enter Tryd.func5, Tryd.ntmps5
  go_wp2_with fail
  generalize w.alloc (Obj.cells #[.int .i64 d, .int .i64 q, .int .i64 t] 43) = W1 at *
  have CK := fun W (hb : Below W1.heap.size W1 W) => known_any W (HT.out.below (hw1.trans (hb.mono hz1)))
  have C1 := fun W (hb : Below W1.heap.size W1 W) => changes_any t d q A1 A2 c1 c2 B bf af W (by have := hb.size; omega) (HR1.out.mono BoolC.mono (Nat.le_refl _) ((hw1.trans (hb.mono hz1)).mono hB)) (HR2.out.mono BoolC.mono (Nat.le_refl _) ((hw1.trans (hb.mono hz1)).mono hB)) hb' ha'
  have C2 := fun W (hb : Below W1.heap.size W1 W) => rchanges_any t d q A1 A2 c1 c2 B bf af W (by have := hb.size; omega) (HR1.out.mono BoolC.mono (Nat.le_refl _) ((hw1.trans (hb.mono hz1)).mono hB)) (HR2.out.mono BoolC.mono (Nat.le_refl _) ((hw1.trans (hb.mono hz1)).mono hB)) hb' ha'
  generalize changesS t d q bf af = es at *
  have HCK := Lib.hid CK
  have HC1 := Lib.hid C1
  have HC2 := Lib.hid C2
  clear CK C1 C2
  obtain ⟨p0, p1, p2⟩ := id P1
  go_region_held3 (fun w' => w'.cell? ⟨w.heap.size, 0, Option.none⟩ = some (.int .i64 d) ∧ w'.cell? ⟨w.heap.size, 1, Option.none⟩ = some (.int .i64 q) ∧ w'.cell? ⟨w.heap.size, 2, Option.none⟩ = some (.int .i64 t)) (first | go_keep | exact s6 | exact s7 | exact s8 | exact s9)
    (first
     | ((go_at_call 12; refine (HCK.out _ (below_drewN (Below.refl _ _) 1)).mono ?_; rintro e' w6 ⟨rfl, hb6'⟩; have hb6 := below_same (a := W1) (B' := W1.heap.size) hb6' rfl rfl rfl rfl (Nat.le_refl _); have s6 := P1.below hb6 l1))
     | ((go_at_call 25; refine (HC1.out _ hb6).mono ?_; rintro e' w7 ⟨A3, c3, rfl, hc3, hm3, hr3, hb7⟩; have hb57 := hb6.trans (hb7.mono hb6.size); have s7 := P1.below hb57 l1; have HR3 := Lib.hid (rws_of_ev hr3 rfl)))
     | ((go_at_call 26; refine (HC2.out _ hb57).mono ?_; rintro e' w8 ⟨A4, c4, rfl, hc4, hm4, hr4, hb8⟩; have hb58 := hb57.trans (hb8.mono hb57.size); have s8 := P1.below hb58 l1; have HR4 := Lib.hid (rws_of_ev hr4 rfl); have HR5 := Lib.hid (HR3.out.mono EvC.mono (Nat.le_refl _) hb8)))
     | ((go_at_call 24; refine (same_any A3 A4 _ _ c3 c4 es _ HR5.out HR4.out hmx).mono ?_; rintro e' w9 ⟨rfl, hb9⟩; have hb59 := hb58.trans (hb9.mono hb58.size); have s9 := P1.below hb59 l1)))
  go_wp2
  go_ret
  exact ⟨rfl, hw1.trans (hb59.mono hz1)⟩
end Go.Proofs.YtcoablindoknpaaDoor
