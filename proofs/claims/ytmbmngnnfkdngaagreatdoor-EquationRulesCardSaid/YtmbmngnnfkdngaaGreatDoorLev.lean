/-
  The levels of the grammar that join operands: expr, xor, and, sum.
-/
import Derived.Test.YtmbmngnnfkdngaaGreatDoorChain
namespace Go.Proofs.YtmbmngnnfkdngaaGreatDoor
open Go.RowKit

/-- The zero expression's variable. -/
def ZB (w : World) (b : Nat) : Prop := XV w b 0 0 [] Option.none 0 0
theorem ZB.new (w : World) : ZB (w.alloc (Obj.cells #[.int .i64 0, .int .i64 0, .string ⟨#[]⟩, .slice Option.none 0 0] 25)) w.heap.size := XV.new w 0 0 [] Option.none 0 0
/-- The result's variable is stored, then returned. -/
theorem RetEx.put {pb : Nat} {A : Option Addr} {c : Nat} {L : List Tok} {w w1 : World} {op n : Int} {nm : List UInt8} {A' : Option Addr} {c' : Nat} {ks : List Ex} {j : Nat} {la : Int} {S : Nat → Prop}
    (h1 : ks.length ≤ c') (h2 : c' ≤ maxLen) (h3 : ExP op n nm) (hr : Rw ExV 4 w1 S A' ks.length ks) (hS : ∀ b, S b → w.heap.size < b ∧ b < w1.heap.size) (hl : Left pb A c L j la w w1) (hj : j < L.length) (hp : pb < w.heap.size) :
    RetEx pb A c L (.mk op n nm ks) j la w (.returned (exV op n nm A' ks.length c')) (set4 w1 w.heap.size (.int .i64 op) (.int .i64 n) (.string ⟨nm.toArray⟩) (.slice A' ks.length c')) := by
  have g := set4_grown w1 w.heap.size (.int .i64 op) (.int .i64 n) (.string ⟨nm.toArray⟩) (.slice A' ks.length c')
  have z := set4_size w1 w.heap.size (.int .i64 op) (.int .i64 n) (.string ⟨nm.toArray⟩) (.slice A' ks.length c')
  refine ⟨op, n, nm, A', c', ks, rfl, rfl, h1, h2, h3, ?_, hl.put (Nat.le_refl _) (by omega) _ _ _ _, hj⟩
  refine hr.mono ExV.mono (fun b hb => ?_) (keepOn_grown g fun b hb => ⟨(hS b hb).2, fun q => by have := (hS b hb).1; injection q; omega⟩)
  have := hS b hb
  exact ⟨by omega, by omega⟩
theorem RetStop.pre {pb : Nat} {a er : Int} {w w1 w2 : World} {e : Ending} (h : Below w.heap.size w w1) (k : RetStop pb a er w1 e w2) : RetStop pb a er w e w2 := ⟨k.1, (grown_of_below h).trans k.2⟩
theorem Left.pre {pb : Nat} {A : Option Addr} {c : Nat} {L : List Tok} {j : Nat} {late : Int} {w w1 w2 : World} (h : Below w.heap.size w w1) (k : Left pb A c L j late w1 w2) : Left pb A c L j late w w2 := ⟨(grown_of_below h).trans k.1, k.2⟩
theorem below_two {n : Nat} {w w1 w2 : World} (h : Below n w w1) (k : Below w1.heap.size w1 w2) (hn : n ≤ w1.heap.size) : Below n w w2 := h.trans (k.mono hn)
theorem ZB.left {pb : Nat} {A : Option Addr} {c : Nat} {L : List Tok} {j : Nat} {late : Int} {w1 w2 : World} {b : Nat} (h : ZB w1 b) (k : Left pb A c L j late w1 w2) (hne : b ≠ pb) : ZB w2 b := ⟨(k.1.block b (XV.lt h) (fun q => hne (by injection q))).trans (XV.heap h)⟩
theorem ZB.below {w1 w2 : World} {b : Nat} (h : ZB w1 b) (k : Below w1.heap.size w1 w2) : ZB w2 b := ⟨(k.block b (XV.lt h)).trans (XV.heap h)⟩
theorem put_cells {w : World} {b : Nat} (h : ZB w b) (op n : Int) (nm : List UInt8) (A : Option Addr) (k c : Nat) : XV (set4 w b (.int .i64 op) (.int .i64 n) (.string ⟨nm.toArray⟩) (.slice A k c)) b op n nm A k c := ⟨set4_heap (XV.heap h) _ _ _ _⟩

set_option maxRecDepth 100000 in
set_option maxHeartbeats 4000000 in
theorem expr_part {pb : Nat} {A : Option Addr} {c : Nat} {L : List Tok} {f : Nat} (hP : Part pb A c L 38 (pLev L f .xor)) : Part pb A c L 16 (pLev L (f + 1) .expr) := by
  intro i late w r hs hr
  have hr' : pChain L (pLev L f .xor) [[111, 114]] f i late = some r := hr
  have hmf : ∀ (fn : Fn) (first cap : Array Value) (w : World), (Instr.makeFunc fn first cap).run Tryz.prog w = .ok (.func fn first cap) w := fun _ _ _ _ => rfl
  have hb1 := box_below w (Obj.cells #[.int .i64 0, .int .i64 0, .string ⟨#[]⟩, .slice Option.none 0 0] 25)
  have hb2 := box_below (w.alloc (Obj.cells #[.int .i64 0, .int .i64 0, .string ⟨#[]⟩, .slice Option.none 0 0] 25)) (Obj.cells #[.string ⟨#[111, 114]⟩] 9)
  have hb := below_two hb1 hb2 hb1.size
  have hZ := (ZB.new w).below hb2
  have hpl := hs.ltp
  have C := chain_any hP (fun _ _ => rfl) [[111, 114]] (w.heap.size + 1) f i late _ r (hs.below hb) hr' (by omega) (by simp) (by decide) (by
      intro q l hq
      match q, hq with
        | 0, q => cases q; go_simp)
  have HC := Lib.hid C
  have HZ := Lib.hid hZ
  clear C hr hr' hP hs hZ
  go_enter Tryz.func16, Tryz.ntmps16
  go_wp2_with fail
  rcases r with ⟨a, er⟩ | ⟨x, j, la⟩
  · refine HC.out.mono ?_
    rintro e' w1 h1
    obtain ⟨rfl, -⟩ := id h1
    exact bodyPost_panic rfl (RetStop.pre hb h1)
  refine HC.out.mono ?_
  rintro e' w1 ⟨op, n, nm, A1, c1, ks, rfl, rfl, hc1, hm1, hp1, hr1, hl1, hj⟩
  unfold exV
  have Z1 := HZ.out.left hl1 (by omega)
  have hl2 := Left.pre hb hl1
  have hsz := hl1.1.size
  obtain ⟨q0, q1, q2, q3, z0, z1, z2, z3⟩ := XV.cells Z1
  have HR1 := Lib.hid hr1
  have HP := Lib.hid (put_cells Z1 op n nm A1 ks.length c1)
  have HL := Lib.hid hl2
  simp only [World.size_alloc] at hsz
  clear hr1 hl1 hl2 Z1 HC HZ hb hb1 hb2
  go_wp2
  change bodyPost _ _ _ _ _ (set4 w1 w.heap.size (.int .i64 op) (.int .i64 n) (.string ⟨nm.toArray⟩) (.slice A1 ks.length c1))
  obtain ⟨r0, r1, r2, r3, -, -, -, -⟩ := HP.out.cells
  refine bodyPost_ret (v := exV op n nm A1 ks.length c1) (by simp [results, Tryz.results16, go_sem, exV, r0, r1, r2, r3]) rfl ?_
  refine RetEx.put hc1 hm1 hp1 HR1.out (fun b hb => ?_) HL.out hj hpl
  have h1 := hb.1
  have h2 := hb.2
  simp only [World.size_alloc] at h1
  exact ⟨by omega, h2⟩

set_option maxRecDepth 100000 in
set_option maxHeartbeats 4000000 in
theorem xor_part {pb : Nat} {A : Option Addr} {c : Nat} {L : List Tok} {f : Nat} (hP : Part pb A c L 60 (pLev L f .conj)) : Part pb A c L 38 (pLev L (f + 1) .xor) := by
  intro i late w r hs hr
  have hr' : pChain L (pLev L f .conj) [[120, 111, 114]] f i late = some r := hr
  have hmf : ∀ (fn : Fn) (first cap : Array Value) (w : World), (Instr.makeFunc fn first cap).run Tryz.prog w = .ok (.func fn first cap) w := fun _ _ _ _ => rfl
  have hb1 := box_below w (Obj.cells #[.int .i64 0, .int .i64 0, .string ⟨#[]⟩, .slice Option.none 0 0] 25)
  have hb2 := box_below (w.alloc (Obj.cells #[.int .i64 0, .int .i64 0, .string ⟨#[]⟩, .slice Option.none 0 0] 25)) (Obj.cells #[.string ⟨#[120, 111, 114]⟩] 9)
  have hb := below_two hb1 hb2 hb1.size
  have hZ := (ZB.new w).below hb2
  have hpl := hs.ltp
  have C := chain_any hP (fun _ _ => rfl) [[120, 111, 114]] (w.heap.size + 1) f i late _ r (hs.below hb) hr' (by omega) (by simp) (by decide) (by
      intro q l hq
      match q, hq with
        | 0, q => cases q; go_simp)
  have HC := Lib.hid C
  have HZ := Lib.hid hZ
  clear C hr hr' hP hs hZ
  go_enter Tryz.func38, Tryz.ntmps38
  go_wp2_with fail
  rcases r with ⟨a, er⟩ | ⟨x, j, la⟩
  · refine HC.out.mono ?_
    rintro e' w1 h1
    obtain ⟨rfl, -⟩ := id h1
    exact bodyPost_panic rfl (RetStop.pre hb h1)
  refine HC.out.mono ?_
  rintro e' w1 ⟨op, n, nm, A1, c1, ks, rfl, rfl, hc1, hm1, hp1, hr1, hl1, hj⟩
  unfold exV
  have Z1 := HZ.out.left hl1 (by omega)
  have hl2 := Left.pre hb hl1
  have hsz := hl1.1.size
  obtain ⟨q0, q1, q2, q3, z0, z1, z2, z3⟩ := XV.cells Z1
  have HR1 := Lib.hid hr1
  have HP := Lib.hid (put_cells Z1 op n nm A1 ks.length c1)
  have HL := Lib.hid hl2
  simp only [World.size_alloc] at hsz
  clear hr1 hl1 hl2 Z1 HC HZ hb hb1 hb2
  go_wp2
  change bodyPost _ _ _ _ _ (set4 w1 w.heap.size (.int .i64 op) (.int .i64 n) (.string ⟨nm.toArray⟩) (.slice A1 ks.length c1))
  obtain ⟨r0, r1, r2, r3, -, -, -, -⟩ := HP.out.cells
  refine bodyPost_ret (v := exV op n nm A1 ks.length c1) (by simp [results, Tryz.results38, go_sem, exV, r0, r1, r2, r3]) rfl ?_
  refine RetEx.put hc1 hm1 hp1 HR1.out (fun b hb => ?_) HL.out hj hpl
  have h1 := hb.1
  have h2 := hb.2
  simp only [World.size_alloc] at h1
  exact ⟨by omega, h2⟩

set_option maxRecDepth 100000 in
set_option maxHeartbeats 4000000 in
theorem and_part {pb : Nat} {A : Option Addr} {c : Nat} {L : List Tok} {f : Nat} (hP : Part pb A c L 76 (pLev L f .neg)) : Part pb A c L 60 (pLev L (f + 1) .conj) := by
  intro i late w r hs hr
  have hr' : pChain L (pLev L f .neg) [[97, 110, 100]] f i late = some r := hr
  have hmf : ∀ (fn : Fn) (first cap : Array Value) (w : World), (Instr.makeFunc fn first cap).run Tryz.prog w = .ok (.func fn first cap) w := fun _ _ _ _ => rfl
  have hb1 := box_below w (Obj.cells #[.int .i64 0, .int .i64 0, .string ⟨#[]⟩, .slice Option.none 0 0] 25)
  have hb2 := box_below (w.alloc (Obj.cells #[.int .i64 0, .int .i64 0, .string ⟨#[]⟩, .slice Option.none 0 0] 25)) (Obj.cells #[.string ⟨#[97, 110, 100]⟩] 9)
  have hb := below_two hb1 hb2 hb1.size
  have hZ := (ZB.new w).below hb2
  have hpl := hs.ltp
  have C := chain_any hP (fun _ _ => rfl) [[97, 110, 100]] (w.heap.size + 1) f i late _ r (hs.below hb) hr' (by omega) (by simp) (by decide) (by
      intro q l hq
      match q, hq with
        | 0, q => cases q; go_simp)
  have HC := Lib.hid C
  have HZ := Lib.hid hZ
  clear C hr hr' hP hs hZ
  go_enter Tryz.func60, Tryz.ntmps60
  go_wp2_with fail
  rcases r with ⟨a, er⟩ | ⟨x, j, la⟩
  · refine HC.out.mono ?_
    rintro e' w1 h1
    obtain ⟨rfl, -⟩ := id h1
    exact bodyPost_panic rfl (RetStop.pre hb h1)
  refine HC.out.mono ?_
  rintro e' w1 ⟨op, n, nm, A1, c1, ks, rfl, rfl, hc1, hm1, hp1, hr1, hl1, hj⟩
  unfold exV
  have Z1 := HZ.out.left hl1 (by omega)
  have hl2 := Left.pre hb hl1
  have hsz := hl1.1.size
  obtain ⟨q0, q1, q2, q3, z0, z1, z2, z3⟩ := XV.cells Z1
  have HR1 := Lib.hid hr1
  have HP := Lib.hid (put_cells Z1 op n nm A1 ks.length c1)
  have HL := Lib.hid hl2
  simp only [World.size_alloc] at hsz
  clear hr1 hl1 hl2 Z1 HC HZ hb hb1 hb2
  go_wp2
  change bodyPost _ _ _ _ _ (set4 w1 w.heap.size (.int .i64 op) (.int .i64 n) (.string ⟨nm.toArray⟩) (.slice A1 ks.length c1))
  obtain ⟨r0, r1, r2, r3, -, -, -, -⟩ := HP.out.cells
  refine bodyPost_ret (v := exV op n nm A1 ks.length c1) (by simp [results, Tryz.results60, go_sem, exV, r0, r1, r2, r3]) rfl ?_
  refine RetEx.put hc1 hm1 hp1 HR1.out (fun b hb => ?_) HL.out hj hpl
  have h1 := hb.1
  have h2 := hb.2
  simp only [World.size_alloc] at h1
  exact ⟨by omega, h2⟩

set_option maxRecDepth 100000 in
set_option maxHeartbeats 4000000 in
theorem sum_part {pb : Nat} {A : Option Addr} {c : Nat} {L : List Tok} {f : Nat} (hP : Part pb A c L 105 (pLev L f .prim)) : Part pb A c L 97 (pLev L (f + 1) .sum) := by
  intro i late w r hs hr
  have hr' : pChain L (pLev L f .prim) [[43], [45]] f i late = some r := hr
  have hmf : ∀ (fn : Fn) (first cap : Array Value) (w : World), (Instr.makeFunc fn first cap).run Tryz.prog w = .ok (.func fn first cap) w := fun _ _ _ _ => rfl
  have hb1 := box_below w (Obj.cells #[.int .i64 0, .int .i64 0, .string ⟨#[]⟩, .slice Option.none 0 0] 25)
  have hb2 := box_below (w.alloc (Obj.cells #[.int .i64 0, .int .i64 0, .string ⟨#[]⟩, .slice Option.none 0 0] 25)) (Obj.cells #[.string ⟨#[43]⟩, .string ⟨#[45]⟩] 9)
  have hb := below_two hb1 hb2 hb1.size
  have hZ := (ZB.new w).below hb2
  have hpl := hs.ltp
  have C := chain_any hP (fun _ _ => rfl) [[43], [45]] (w.heap.size + 1) f i late _ r (hs.below hb) hr' (by omega) (by simp) (by decide) (by
      intro q l hq
      match q, hq with
        | 0, q => cases q; go_simp
        | 1, q => cases q; go_simp)
  have HC := Lib.hid C
  have HZ := Lib.hid hZ
  clear C hr hr' hP hs hZ
  go_enter Tryz.func97, Tryz.ntmps97
  go_wp2_with fail
  rcases r with ⟨a, er⟩ | ⟨x, j, la⟩
  · refine HC.out.mono ?_
    rintro e' w1 h1
    obtain ⟨rfl, -⟩ := id h1
    exact bodyPost_panic rfl (RetStop.pre hb h1)
  refine HC.out.mono ?_
  rintro e' w1 ⟨op, n, nm, A1, c1, ks, rfl, rfl, hc1, hm1, hp1, hr1, hl1, hj⟩
  unfold exV
  have Z1 := HZ.out.left hl1 (by omega)
  have hl2 := Left.pre hb hl1
  have hsz := hl1.1.size
  obtain ⟨q0, q1, q2, q3, z0, z1, z2, z3⟩ := XV.cells Z1
  have HR1 := Lib.hid hr1
  have HP := Lib.hid (put_cells Z1 op n nm A1 ks.length c1)
  have HL := Lib.hid hl2
  simp only [World.size_alloc] at hsz
  clear hr1 hl1 hl2 Z1 HC HZ hb hb1 hb2
  go_wp2
  change bodyPost _ _ _ _ _ (set4 w1 w.heap.size (.int .i64 op) (.int .i64 n) (.string ⟨nm.toArray⟩) (.slice A1 ks.length c1))
  obtain ⟨r0, r1, r2, r3, -, -, -, -⟩ := HP.out.cells
  refine bodyPost_ret (v := exV op n nm A1 ks.length c1) (by simp [results, Tryz.results97, go_sem, exV, r0, r1, r2, r3]) rfl ?_
  refine RetEx.put hc1 hm1 hp1 HR1.out (fun b hb => ?_) HL.out hj hpl
  have h1 := hb.1
  have h2 := hb.2
  simp only [World.size_alloc] at h1
  exact ⟨by omega, h2⟩
end Go.Proofs.YtmbmngnnfkdngaaGreatDoor
