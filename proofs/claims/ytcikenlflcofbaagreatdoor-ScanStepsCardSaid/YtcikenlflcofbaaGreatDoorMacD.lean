/-
  The machine of scans: delay; every operation with a cell.
-/
import Derived.Test.YtcikenlflcofbaaGreatDoorMacC
import Derived.Deep.RegionHeld3
namespace Go.Proofs.YtcikenlflcofbaaGreatDoor
open Go.RowKit

theorem cell_other {w : World} {g b i j : Nat} (v : Value) (h : g ≠ b) : (w.setCell ⟨g, i, Option.none⟩ v).cell? ⟨b, j, Option.none⟩ = w.cell? ⟨b, j, Option.none⟩ :=
  World.cell?_of_block (a := ⟨b, j, Option.none⟩) (Below.heap_setCell w _ _ b (fun q => h (by exact q.symm)))

set_option maxRecDepth 100000 in
set_option maxHeartbeats 8000000 in
theorem cel_delay {w : World} {mb base : Nat} {st : List Int} {sv : Value} (x n : Int) (h : MaW w mb base (st ++ [x]) sv) (hs : st.length ≤ 1000) {b0 g cc N : Nat} {cs : List Cs} (hc : CeW w b0 g cc N cs) {k : Nat} {c : Cs} (hk : cs[k]? = some c) (hg : g < base) (hz : 0 ≤ c.n ∧ c.n ≤ 100000) (hn : 0 ≤ n ∧ n ≤ 100000) :
    Calls Tryz.prog 57 #[.pointer (some ⟨mb, 0, Option.none⟩), .agg #[.int .i64 19, .int .i64 n], .pointer (some ⟨g, k * 2, Option.none⟩)] w (RetCel mb base (st ++ [(cellP 19 n c (decide (x = 1)) false).1]) b0 g cc N (cs.set k (cellP 19 n c (decide (x = 1)) false).2) w sv) := by
  have HX := Lib.hid (h.below (box_below w (Obj.cells #[.int .i64 19, .int .i64 n] 89)))
  have HH := Lib.hid (And.intro h hc)
  have hgm := h.lo
  have hgs : w.heap.size ≠ mb := by have := h.lt; omega
  have hsv : sv.ownBlock ≠ some w.heap.size := fun q => by have := (h.st.lt _ q).2; omega
  have HGS := Lib.hid (And.intro hgs hsv)
  clear hgs hsv
  obtain ⟨on, z⟩ := c
  have HK := Lib.hid hk
  try dsimp only at *
  clear h hc hk
  go_enter Tryz.func57, Tryz.ntmps57
  go_wp2_with fail
  refine (pop_any HX.out (by omega)).mono ?_
  rintro e0 w0 ⟨rfl, s0, hm0, hk0, ho0, hz0⟩
  have HP := Lib.hid (ceP_of HH.out.1 HH.out.2 hg hm0 hk0 ho0)
  clear hm0 hk0 ho0 hz0 HX
  have b0 := HP.out.b0
  have b1 := HP.out.b1
  have hbl := HP.out.bl
  obtain ⟨t0, t1, f0, f1⟩ := HP.out.ce.get HK.out
  have hg0 := HP.out.ce.lt
  have hgl := HP.out.hg.1
  dsimp only at t0 t1
  have hzw : -9223372036854775808 ≤ z + 1 ∧ z + 1 ≤ 9223372036854775807 := by omega
  have hnw : -9223372036854775808 ≤ n + 1 ∧ n + 1 ≤ 9223372036854775807 := by omega
  have HMN := Lib.hid (show min (z + 1) (n + 1) = min z n + 1 by omega)
  by_cases hx : x = 1
  · subst hx
    have HA := Lib.hid (show decide ((1 : Int) = 1) = true from rfl)
    have hce := HP.out.ce.setN HK.out (min z n + 1)
    dsimp only at hce
    have HPU0 := fun v => HP.out.push (W := ((w0.setCell ⟨g, k * 2 + 1, Option.none⟩ (.int .i64 (min z n + 1))).drew).drew) (((KB.of_grown (grown_set w0 g _ _) (fun b _ q => by injection q with q; exact q.symm)).trans (kb_drew _ _)).trans (kb_drew _ _)) (hce.keep rfl) v hs HGS.out.1 HGS.out.2
    have zb : (w0.setCell ⟨g, k * 2 + 1, Option.none⟩ (.int .i64 (min z n + 1))).cell? ⟨w.heap.size, 1, Option.none⟩ = some (.int .i64 n) := (cell_other _ (by omega)).trans b1
    obtain ⟨-, z1, -, -⟩ := hce.get (set_at HK.out _)
    dsimp only at z1
    have HK2 := Lib.hid (set_at HK.out ⟨on, min z n + 1⟩)
    clear hce
    go_upto_region 13 with fail
    go_region
    go_upto_region 16 with fail
    generalize (w0.setCell ⟨g, k * 2 + 1, Option.none⟩ (.int .i64 (min z n + 1))) = W2 at *
    have HPU := Lib.hid HPU0
    clear HPU0
    first
      | (go_region_held3 (fun w' => w'.cell? ⟨g, k * 2 + 1, Option.none⟩ = some (.int .i64 (min z n + 1)) ∧ w'.cell? ⟨w.heap.size, 1, Option.none⟩ = some (.int .i64 n)) (go_keep)
          (first
            | ((go_at_call 81; refine (sbit_any _ _).mono ?_; rintro e5 w5 ⟨rfl, rfl⟩))
            | ((go_at_call 54; refine (HPU.out _).mono ?_; rintro e w9 ⟨⟨rfl, hres⟩, bx9, bl9⟩; have hres2 := hres; obtain ⟨sv9, -, hc9, -, -⟩ := hres2; obtain ⟨-, u1, -, -⟩ := hc9.get HK2.out))))
      | fail
    all_goals
      have HR := Lib.hid (show RetCel mb base _ _ g cc N _ w sv (.returned (.tuple #[])) w9 from ⟨rfl, hres⟩)
      clear hres
      go_wp2
      go_end0
      exact HR.out.to (by rw [HA.out]; show _ = st ++ [bitP (decide (n < min (z + 1) (n + 1)))]; rw [HMN.out]) (by rw [HA.out]; show _ = cs.set k ⟨on, min (z + 1) (n + 1)⟩; rw [HMN.out])
  · have hb : (x == 1) = false := by simpa using hx
    have HA := Lib.hid (show decide (x = 1) = false by simpa using hx)
    have hce := (HP.out.ce.setN HK.out (min z n + 1)).setN (set_at HK.out _) 0
    rw [set_set] at hce
    dsimp only at hce
    have HPU0 := HP.out.push (W := (((w0.setCell ⟨g, k * 2 + 1, Option.none⟩ (.int .i64 (min z n + 1))).setCell ⟨g, k * 2 + 1, Option.none⟩ (.int .i64 0)).drew).drew) ((((KB.of_grown (grown_set w0 g _ _) (fun b _ q => by injection q with q; exact q.symm)).trans (KB.of_grown (grown_set _ g _ _) (fun b _ q => by injection q with q; exact q.symm))).trans (kb_drew _ _)).trans (kb_drew _ _)) (hce.keep rfl) (bitP false) hs HGS.out.1 HGS.out.2
    have zb : ((w0.setCell ⟨g, k * 2 + 1, Option.none⟩ (.int .i64 (min z n + 1))).setCell ⟨g, k * 2 + 1, Option.none⟩ (.int .i64 0)).cell? ⟨w.heap.size, 1, Option.none⟩ = some (.int .i64 n) := (cell_other _ (by omega)).trans ((cell_other _ (by omega)).trans b1)
    obtain ⟨-, z1, -, -⟩ := hce.get (set_at HK.out _)
    dsimp only at z1
    have HK2 := Lib.hid (set_at HK.out ⟨on, 0⟩)
    clear hx hce
    go_upto_region 13 with fail
    go_region
    go_upto_region 16 with fail
    generalize ((w0.setCell ⟨g, k * 2 + 1, Option.none⟩ (.int .i64 (min z n + 1))).setCell ⟨g, k * 2 + 1, Option.none⟩ (.int .i64 0)) = W2 at *
    have HPU := Lib.hid HPU0
    clear HPU0
    first
      | (go_region_law (first | ((go_simp; go_at_call 81; refine (sbit_any _ _).mono ?_; rintro e5 w5 ⟨rfl, rfl⟩)) | ((go_simp; go_at_call 54; refine HPU.out.mono ?_; rintro e w9 ⟨⟨rfl, hres⟩, -, -⟩))))
      | fail
    all_goals
      have HR := Lib.hid (show RetCel mb base _ _ g cc N _ w sv (.returned (.tuple #[])) w9 from ⟨rfl, hres⟩)
      clear hres
      go_wp2
      go_end0
      exact HR.out.to (by rw [HA.out]; rfl) (by rw [HA.out]; rfl)
theorem cell_any {w : World} {mb base : Nat} {st args : List Int} {sv : Value} {op n : Int} (h17 : 17 ≤ op ∧ op ≤ 22) (hl : opnP op = args.length) (hn : 0 ≤ n ∧ n ≤ 100000) (h : MaW w mb base (st ++ args) sv) (hs : st.length ≤ 1000) {b0 g cc N : Nat} {cs : List Cs} (hc : CeW w b0 g cc N cs) {k : Nat} {c : Cs} (hk : cs[k]? = some c) (hz : 0 ≤ c.n ∧ c.n ≤ 100000) (hg : g < base) :
    Calls Tryz.prog 57 #[.pointer (some ⟨mb, 0, Option.none⟩), .agg #[.int .i64 op, .int .i64 n], .pointer (some ⟨g, k * 2, Option.none⟩)] w (RetCel mb base (st ++ [(cellP op n c (decide (args.getD 0 0 = 1)) (decide (args.getD 1 0 = 1))).1]) b0 g cc N (cs.set k (cellP op n c (decide (args.getD 0 0 = 1)) (decide (args.getD 1 0 = 1))).2) w sv) := by
  have hop : (op = 17 ∨ op = 18 ∨ op = 19 ∨ op = 20) ∨ (op = 21 ∨ op = 22) := by omega
  rcases hop with hop | hop
  · obtain ⟨x, rfl⟩ := len_one (l := args) (by
      have : opnP op = 1 := by rcases hop with rfl | rfl | rfl | rfl <;> decide
      omega)
    have e0 : ([x] : List Int).getD 0 0 = x := rfl
    have e1 : decide (([x] : List Int).getD 1 0 = 1) = false := rfl
    rw [e0, e1]
    rcases hop with rfl | rfl | rfl | rfl
    · exact cel_rise x n h hs hc hk hg
    · exact cel_fall x n h hs hc hk hg
    · exact cel_delay x n h hs hc hk hg hz hn
    · exact cel_hold x n h hs hc hk hg hz
  · obtain ⟨x, y, rfl⟩ := len_two (l := args) (by
      have : opnP op = 2 := by rcases hop with rfl | rfl <;> decide
      omega)
    have e0 : ([x, y] : List Int).getD 0 0 = x := rfl
    have e1 : ([x, y] : List Int).getD 1 0 = y := rfl
    rw [e0, e1]
    rcases hop with rfl | rfl
    · exact cel_latch x y n h hs hc hk hg
    · exact cel_count x y n h hs hc hk hg hz

end Go.Proofs.YtcikenlflcofbaaGreatDoor
