/-
  The reference's Parse.
-/
import Derived.Test.YtmbmngnnfkdngaaGreatDoorRdA
import Derived.Test.YtmbmngnnfkdngaaGreatDoorRdC
import Derived.Test.YtmbmngnnfkdngaaGreatDoorRdS
import Derived.Test.YtmbmngnnfkdngaaGreatDoorRV
namespace Go.Proofs.YtmbmngnnfkdngaaGreatDoor
open Go.RowKit

/-- What Parse returns. -/
def RetPq (t : List UInt8) (w : World) (e : Ending) (w' : World) : Prop :=
  ∃ op n nm A c ks, (parseP t).1 = .mk op n nm ks ∧ e = .returned (.tuple #[.agg #[.int .i64 op, .int .i64 n, .string ⟨nm.toArray⟩, .slice A ks.length c], .int .i64 (parseP t).2.1, .int .i64 (parseP t).2.2]) ∧ XI w' op n nm A c ks ∧ Below w.heap.size w w'
theorem RetPq.zero {t : List UInt8} {w w' : World} {a er : Int} (h : parseP t = (.zero, a, er)) (hb : Below w.heap.size w w') : RetPq t w (.returned (.tuple #[.agg #[.int .i64 0, .int .i64 0, .string ⟨#[]⟩, .slice Option.none 0 0], .int .i64 a, .int .i64 er])) w' :=
  ⟨0, 0, [], Option.none, 0, [], by rw [h]; rfl, by rw [h]; rfl, ⟨Nat.le_refl _, by unfold maxLen; decide, ⟨by decide, by decide, by simp⟩, Rw.nil⟩, hb⟩
theorem toks_err {t : List UInt8} {a e : Int} (h : toksP t = .error (a, e)) : e ≠ 0 := by
  rintro rfl
  have key : ∀ f i acc, toksG t f i acc ≠ .error (a, 0) := by
    intro f
    induction f with
    | zero => intro i acc q; cases q
    | succ f ih =>
      intro i acc q
      unfold toksG at q
      split at q
      · cases q
      · rename_i c hc
        split at q
        · rename_i e' he'
          cases q
          unfold tokAt at he'
          repeat' split at he'
          all_goals first | cases he' | (injection he' with he'; injection he' with _ he'; exact absurd he' (by decide))
        · exact ih _ _ q
        · exact ih _ _ q
  exact key _ _ _ h
theorem parse_cases (t : List UInt8) : (120 < t.length ∧ parseP t = (.zero, 0, 4)) ∨ (¬ 120 < t.length ∧ ∃ a e, toksP t = .error (a, e) ∧ e ≠ 0 ∧ parseP t = (.zero, a, e)) ∨
    (¬ 120 < t.length ∧ ∃ l y s, toksP t = .ok l ∧ rLev l 1008 .expr ⟨0, false, -1⟩ = some (y, s) ∧ s.i ≤ l.length ∧ endR t l y s = parseP t ∧ (s.bad = false → ∀ d, szG d y ≤ 120)) := by
  have hp := parseP_eq t
  unfold parseF at hp
  by_cases hl : 120 < t.length
  · rw [if_pos hl] at hp
    injection hp with hp
    exact .inl ⟨hl, hp.symm⟩
  · rw [if_neg hl] at hp
    cases ht : toksP t with
    | error e =>
      obtain ⟨a, e⟩ := e
      rw [ht] at hp
      injection hp with hp
      exact .inr (.inl ⟨hl, a, e, rfl, toks_err ht, hp.symm⟩)
    | ok l =>
      obtain ⟨y, s, h1, h2, h3, h4⟩ := parse_read2 hl ht
      exact .inr (.inr ⟨hl, l, y, s, rfl, h1, h2, h3, h4⟩)
theorem below_set4 {n : Nat} {w w' : World} (h : Below n w w') {b : Nat} (hb : n ≤ b) (v0 v1 v2 v3 : Value) : Below n w (set4 w' b v0 v1 v2 v3) :=
  (((h.setCell (p := ⟨b, 0, Option.none⟩) hb v0).setCell (p := ⟨b, 1, Option.none⟩) hb v1).setCell (p := ⟨b, 2, Option.none⟩) hb v2).setCell (p := ⟨b, 3, Option.none⟩) hb v3
theorem _root_.Go.RowKit.Below.drewq {n : Nat} {w w' : World} (h : Below n w w') : Below n w w'.drew := below_drew h

set_option maxRecDepth 100000 in
set_option maxHeartbeats 8000000 in
theorem rparse_in (t : List UInt8) (w : World) : Calls Tryz.prog 7 #[.string ⟨t.toArray⟩] w (RetPq t w) := by
  have hb0 := box_below w (Obj.cells #[.int .i64 0, .int .i64 0, .string ⟨#[]⟩, .slice Option.none 0 0] 25)
  have hZ := ZB.new w
  have HB0 := Lib.hid hb0
  have HZ := Lib.hid hZ
  clear hb0 hZ
  rcases parse_cases t with ⟨hl, hp⟩ | ⟨hl, a, er, ht, he0, hp⟩ | ⟨hl, l, y, s, ht, hrd, hsi, hend, hsz⟩
  · have HP := Lib.hid hp
    clear hp
    go_enter Tryz.func7, Tryz.ntmps7
    go_wp2
    exact bodyPost_ret (v := .tuple #[.agg #[.int .i64 0, .int .i64 0, .string ⟨#[]⟩, .slice Option.none 0 0], .int .i64 0, .int .i64 4]) (by simp [results, Tryz.results7, go_sem]) rfl (RetPq.zero HP.out HB0.out)
  · have HC := Lib.hid (fun W => cut_any' t (by omega) W)
    rw [ht] at HC
    have HP := Lib.hid hp
    have ee : (er != 0) = true := by simp [he0]
    clear hp ht he0
    go_enter Tryz.func7, Tryz.ntmps7
    go_wp2_with fail
    refine (HC.out _).mono ?_
    rintro e w1 ⟨rfl, hb1⟩
    have HB1 := Lib.hid (below_two HB0.out hb1 HB0.out.size)
    have HZ1 := Lib.hid (HZ.out.below hb1)
    clear hb1 HZ HB0 HC
    obtain ⟨q0, q1, q2, q3, z0, z1, z2, z3⟩ := XV.cells (HZ1.out)
    have hzz := XV.lt (HZ1.out)
    have HPT := Lib.hid (put_cells (HZ1.out) 0 0 [] Option.none 0 0)
    have HBB := Lib.hid (below_set4 (HB1.out) (Nat.le_refl _) (.int .i64 0) (.int .i64 0) (.string ⟨#[]⟩) (.slice Option.none 0 0))
    have HPE := Lib.hid (HP.out)
    go_wp2
    change bodyPost _ _ _ _ _ (set4 w1 w.heap.size (.int .i64 0) (.int .i64 0) (.string ⟨#[]⟩) (.slice Option.none 0 0))
    obtain ⟨r0, r1, r2, r3, -, -, -, -⟩ := HPT.out.cells
    exact bodyPost_ret (v := .tuple #[.agg #[.int .i64 0, .int .i64 0, .string ⟨#[]⟩, .slice Option.none 0 0], .int .i64 a, .int .i64 er]) (by simp [results, Tryz.results7, go_sem, r0, r1, r2, r3]) rfl (RetPq.zero HPE.out HBB.out)
  have HC := Lib.hid (fun W => cut_any' t (by omega) W)
  rw [ht] at HC
  have HRD := Lib.hid hrd
  have HTK := Lib.hid (toksP_ok ht)
  have HEND := Lib.hid hend
  have HSZ := Lib.hid hsz
  have HRA := Lib.hid (fun rb A c => read_any (rb := rb) (A := A) (c := c) (t := t) (l := l) 1008)
  have htl : t.length ≤ 120 := Nat.le_of_not_lt hl
  have hll : l.length ≤ 120 := Nat.le_trans (toksP_ok ht).2 htl
  clear ht hrd hend hsz
  go_enter Tryz.func7, Tryz.ntmps7
  go_wp2_with fail
  refine (HC.out _).mono ?_
  rintro e w1 ⟨v, rfl, hown, hb1⟩
  obtain ⟨A, c, rfl, hac, hcm⟩ := own_shape hown
  have HB1 := Lib.hid (below_two HB0.out hb1 HB0.out.size)
  have HZ1 := Lib.hid (HZ.out.below hb1)
  have hs1 := HB1.out.size
  have hz1 := XV.lt HZ1.out
  have hbx := box_below w1 (RdCells A c l ⟨0, false, -1⟩)
  have hrs : RS w1.heap.size A c t l ⟨0, false, -1⟩ (w1.alloc (RdCells A c l ⟨0, false, -1⟩)) := by
    refine ⟨heap_alloc_new w1 _, ?_, Nat.zero_le _, HTK.out.2, htl, HTK.out.1⟩
    have h := Rw.of_own (R := TkrC) (S := fun b => b < w1.heap.size) (f := tkC) hown rfl (fun _ _ => rfl) (fun _ _ => rfl) (fun b _ h => h)
    exact h.mono TkrC.mono (fun b hb => ⟨by rw [World.size_alloc]; omega, by omega⟩) (keepOn_below hbx fun b hb => hb)
  have HTR := Lib.hid (Rw.of_own (R := TkrC) (S := fun b => w.heap.size < b ∧ b < w1.heap.size) (f := tkC) hown rfl (fun _ _ => rfl) (fun _ _ => rfl) (fun b h1 h => ⟨by rw [World.size_alloc] at h1; omega, h⟩))
  have HRS := Lib.hid hrs
  have HBX := Lib.hid hbx
  have HCR := Lib.hid (HRA.out _ _ _ _ _ _ _ hrs HRD.out)
  unfold RdCells at HBX HCR HRS
  clear hb1 hown hrs hbx HC HZ HB0 HRA HRD
  go_wp2_with fail
  refine HCR.out.mono ?_
  rintro e w2 ⟨op, n, nm, A1, c1, ks, rfl, rfl, hc1, hm1, hp1, hr1, hl1, hi1⟩
  unfold exV
  have hs2 := hl1.1.size
  rw [World.size_alloc] at hs2
  have hl1' : LeftR w1.heap.size A c l s (w1.alloc (Obj.cells #[.slice A l.length c, .int .i64 0, .bool false, .int .i64 (-1)] 57)) w2 := hl1
  have hZ2 := (HZ1.out.below (box_below w1 _)).leftR hl1' (by omega)
  have hB2 : Below w.heap.size w w2 := HB1.out.grown ((World.grownBy_alloc w1 _ (some w1.heap.size)).trans hl1'.1) hs1 (fun j hj => by cases hj; exact hs1)
  have hS2 := HRS.out.left hl1' hi1
  have HT2 := Lib.hid (HTR.out.mono TkrC.mono (fun b hb => hb) ((keepOn_below (S := fun b => w.heap.size < b ∧ b < w1.heap.size) (box_below w1 (Obj.cells #[.slice A l.length c, .int .i64 0, .bool false, .int .i64 (-1)] 57)) fun b hb => hb.2).trans (keepOn_grown hl1'.1 fun b hb => ⟨by rw [World.size_alloc]; omega, fun q => by have := hb.2; injection q; omega⟩)))
  have hx3 := box_below w2 (Obj.cells #[.int .i64 op, .int .i64 n, .string ⟨nm.toArray⟩, .slice A1 ks.length c1] 25)
  have HX := Lib.hid (XV.new w2 op n nm A1 ks.length c1)
  have HRW := Lib.hid (hr1.mono (S' := fun b => w.heap.size < b ∧ b < w2.heap.size) ExV.mono (fun b hb => ⟨by have := hb.1; rw [World.size_alloc] at this; omega, hb.2⟩) (KeepOn.refl _ _))
  have HX3K := Lib.hid (keepOn_below (S := fun b => b < w2.heap.size) hx3 fun b hb => hb)
  have HSX := Lib.hid hx3.size
  have hI2 : XI w2 op n nm A1 c1 ks := ⟨hc1, hm1, hp1, hr1.mono ExV.mono (fun b hb => hb.2) (KeepOn.refl _ _)⟩
  have HI3 := Lib.hid (hI2.below hx3)
  have HZ3 := Lib.hid (hZ2.below hx3)
  have HB3 := Lib.hid (below_two hB2 hx3 hB2.size)
  have hS3 := hS2.below hx3
  have HS2 := Lib.hid hS2
  obtain ⟨p0, p1, p2, p3, f1, f2, f3⟩ := hS3.cells
  have hpl := hS3.ltp
  have HS3 := Lib.hid hS3
  clear hl1 hl1' hr1 hZ2 hB2 hS2 hx3 hI2 hS3 HCR HRS HBX HZ1 HB1
  obtain ⟨i, bad, la⟩ := s
  dsimp only at p0 p1 p2 p3 hsi
  have hen := HEND.out
  unfold endR at hen
  by_cases hbi : bad = true ∨ i < l.length
  · rw [if_pos hbi] at hen
    have hcs : bad = true ∨ bad = false ∧ decide (i < l.length) = true := by
      rcases hbi with q | q
      · exact .inl q
      · cases bad
        · exact .inr ⟨rfl, by simpa using q⟩
        · exact .inl rfl
    by_cases hi : i < l.length
    · rw [if_pos hi] at hen
      obtain ⟨b, o, cs, x, hA, ⟨hb4, hb5⟩, hx, -, hR, hat⟩ := HT2.out.at_ hi
      obtain rfl : cs = _ := hR
      have htx : tk l i = x := by unfold tk; rw [List.getD_eq_getElem?_getD, hx]; rfl
      subst hA
      have t0 := hat 0 _ rfl
      have t2 := hat 2 _ rfl
      dsimp only at hen t0 t2
      rw [htx] at hen
      have hb6 : b < w2.heap.size := by omega
      clear hat hx htx
      have HPE0 := Lib.hid hen.symm
      clear hen hbi HEND HSZ
      rcases hcs with rfl | ⟨rfl, dq⟩
      all_goals
        obtain ⟨q0, q1, q2, q3, z0, z1, z2, z3⟩ := XV.cells (HZ3.out)
        have hzz := XV.lt (HZ3.out)
        have HPT := Lib.hid (put_cells (HZ3.out) 0 0 [] Option.none 0 0)
        have HBB := Lib.hid (below_set4 (HB3.out) (Nat.le_refl _) (.int .i64 0) (.int .i64 0) (.string ⟨#[]⟩) (.slice Option.none 0 0))
        have HPE := Lib.hid (HPE0.out)
        go_wp2
        go_region
        go_wp2
        change bodyPost _ _ _ _ _ (set4 (w2.alloc (Obj.cells #[.int .i64 op, .int .i64 n, .string ⟨nm.toArray⟩, .slice A1 ks.length c1] 25)) w.heap.size (.int .i64 0) (.int .i64 0) (.string ⟨#[]⟩) (.slice Option.none 0 0)).drew
        obtain ⟨r0, r1, r2, r3, -, -, -, -⟩ := HPT.out.cells
        exact bodyPost_ret (v := .tuple #[.agg #[.int .i64 0, .int .i64 0, .string ⟨#[]⟩, .slice Option.none 0 0], .int .i64 x.pos, .int .i64 6]) (by simp [results, Tryz.results7, go_sem, r0, r1, r2, r3]) rfl (RetPq.zero HPE.out HBB.out.drewq)
    · rw [if_neg hi] at hen
      have HPE0 := Lib.hid hen.symm
      have dq2 : decide (i < l.length) = false := by simpa using hi
      obtain rfl : bad = true := by
        rcases hcs with q | ⟨-, q⟩
        · exact q
        · rw [dq2] at q; cases q
      clear hen hbi HEND HSZ hcs
      obtain ⟨q0, q1, q2, q3, z0, z1, z2, z3⟩ := XV.cells (HZ3.out)
      have hzz := XV.lt (HZ3.out)
      have HPT := Lib.hid (put_cells (HZ3.out) 0 0 [] Option.none 0 0)
      have HBB := Lib.hid (below_set4 (HB3.out) (Nat.le_refl _) (.int .i64 0) (.int .i64 0) (.string ⟨#[]⟩) (.slice Option.none 0 0))
      have HPE := Lib.hid (HPE0.out)
      go_wp2
      change bodyPost _ _ _ _ _ (set4 (w2.alloc (Obj.cells #[.int .i64 op, .int .i64 n, .string ⟨nm.toArray⟩, .slice A1 ks.length c1] 25)) w.heap.size (.int .i64 0) (.int .i64 0) (.string ⟨#[]⟩) (.slice Option.none 0 0))
      obtain ⟨r0, r1, r2, r3, -, -, -, -⟩ := HPT.out.cells
      exact bodyPost_ret (v := .tuple #[.agg #[.int .i64 0, .int .i64 0, .string ⟨#[]⟩, .slice Option.none 0 0], .int .i64 t.length, .int .i64 6]) (by simp [results, Tryz.results7, go_sem, r0, r1, r2, r3]) rfl (RetPq.zero HPE.out HBB.out)
  rw [if_neg hbi] at hen
  obtain rfl : bad = false := by cases bad; rfl; exact absurd (.inl rfl) hbi
  have dq : decide (i < l.length) = false := by
    have : ¬ i < l.length := fun q => hbi (.inr q)
    simpa using this
  dsimp only at hen
  by_cases hla : 0 ≤ la
  · rw [if_pos hla] at hen
    have HPE0 := Lib.hid hen.symm
    clear hen hbi HEND HSZ
    obtain ⟨q0, q1, q2, q3, z0, z1, z2, z3⟩ := XV.cells (HZ3.out)
    have hzz := XV.lt (HZ3.out)
    have HPT := Lib.hid (put_cells (HZ3.out) 0 0 [] Option.none 0 0)
    have HBB := Lib.hid (below_set4 (HB3.out) (Nat.le_refl _) (.int .i64 0) (.int .i64 0) (.string ⟨#[]⟩) (.slice Option.none 0 0))
    have HPE := Lib.hid (HPE0.out)
    go_wp2
    go_region
    go_wp2
    change bodyPost _ _ _ _ _ (set4 (w2.alloc (Obj.cells #[.int .i64 op, .int .i64 n, .string ⟨nm.toArray⟩, .slice A1 ks.length c1] 25)) w.heap.size (.int .i64 0) (.int .i64 0) (.string ⟨#[]⟩) (.slice Option.none 0 0)).drew
    obtain ⟨r0, r1, r2, r3, -, -, -, -⟩ := HPT.out.cells
    exact bodyPost_ret (v := .tuple #[.agg #[.int .i64 0, .int .i64 0, .string ⟨#[]⟩, .slice Option.none 0 0], .int .i64 la, .int .i64 2]) (by simp [results, Tryz.results7, go_sem, r0, r1, r2, r3]) rfl (RetPq.zero HPE.out HBB.out.drewq)
  rw [if_neg hla] at hen
  have HCV := Lib.hid (rvalid_in HI3.out (fun d _ => Nat.le_trans (HSZ.out rfl d) (by decide)))
  cases hv : validP (.mk op n nm ks) with
  | false =>
    rw [hv] at hen HCV
    rw [if_neg Bool.false_ne_true] at hen
    have HPE0 := Lib.hid hen.symm
    obtain ⟨x0, x1, x2, x3, -, -, -, -⟩ := HX.out.cells
    clear hen hbi HEND HSZ hv
    go_wp2_with fail
    refine HCV.out.mono ?_
    rintro e w4 ⟨rfl, hb4⟩
    have HZ4 := Lib.hid (HZ3.out.below hb4)
    have HB4 := Lib.hid (below_two HB3.out hb4 HB3.out.size)
    clear hb4 HZ3 HB3 x0 x1 x2 x3
    obtain ⟨q0, q1, q2, q3, z0, z1, z2, z3⟩ := XV.cells (HZ4.out)
    have hzz := XV.lt (HZ4.out)
    have HPT := Lib.hid (put_cells (HZ4.out) 0 0 [] Option.none 0 0)
    have HBB := Lib.hid (below_set4 (HB4.out) (Nat.le_refl _) (.int .i64 0) (.int .i64 0) (.string ⟨#[]⟩) (.slice Option.none 0 0))
    have HPE := Lib.hid (HPE0.out)
    go_wp2
    change bodyPost _ _ _ _ _ (set4 w4 w.heap.size (.int .i64 0) (.int .i64 0) (.string ⟨#[]⟩) (.slice Option.none 0 0))
    obtain ⟨r0, r1, r2, r3, -, -, -, -⟩ := HPT.out.cells
    exact bodyPost_ret (v := .tuple #[.agg #[.int .i64 0, .int .i64 0, .string ⟨#[]⟩, .slice Option.none 0 0], .int .i64 0, .int .i64 17]) (by simp [results, Tryz.results7, go_sem, r0, r1, r2, r3]) rfl (RetPq.zero HPE.out HBB.out)
  | true =>
    rw [hv] at hen HCV
    rw [if_pos rfl] at hen
    have HPE0 := Lib.hid hen.symm
    obtain ⟨x0, x1, x2, x3, -, -, -, -⟩ := HX.out.cells
    clear hen hbi HEND HSZ hv
    go_wp2_with fail
    refine HCV.out.mono ?_
    rintro e w4 ⟨rfl, hb4⟩
    have HZ4 := Lib.hid (HZ3.out.below hb4)
    have HB4 := Lib.hid (below_two HB3.out hb4 HB3.out.size)
    have HI4 := Lib.hid (HI3.out.below hb4)
    have HK4 := Lib.hid (HX3K.out.trans (keepOn_below (S := fun b => b < w2.heap.size) hb4 fun b hb => Nat.lt_of_lt_of_le hb HSX.out))
    have hs24 := Nat.le_trans HSX.out hb4.size
    have hX4 := HX.out.below hb4
    clear x0 x1 x2 x3
    obtain ⟨x0, x1, x2, x3, -, -, -, -⟩ := hX4.cells
    have hxl := hX4.lt
    clear hb4 HZ3 HB3 hX4
    obtain ⟨q0, q1, q2, q3, z0, z1, z2, z3⟩ := XV.cells HZ4.out
    have hzz := XV.lt HZ4.out
    have HPT := Lib.hid (put_cells HZ4.out op n nm A1 ks.length c1)
    have HBB := Lib.hid (below_set4 HB4.out (Nat.le_refl _) (.int .i64 op) (.int .i64 n) (.string ⟨nm.toArray⟩) (.slice A1 ks.length c1))
    have hS4 := set4_size w4 w.heap.size (.int .i64 op) (.int .i64 n) (.string ⟨nm.toArray⟩) (.slice A1 ks.length c1)
    have hG4 := set4_grown w4 w.heap.size (.int .i64 op) (.int .i64 n) (.string ⟨nm.toArray⟩) (.slice A1 ks.length c1)
    have HS4 := Lib.hid hS4
    have HG4 := Lib.hid hG4
    clear hS4 hG4
    go_wp2
    change bodyPost _ _ _ _ _ (set4 w4 w.heap.size (.int .i64 op) (.int .i64 n) (.string ⟨nm.toArray⟩) (.slice A1 ks.length c1))
    obtain ⟨r0, r1, r2, r3, -, -, -, -⟩ := HPT.out.cells
    refine bodyPost_ret (v := .tuple #[.agg #[.int .i64 op, .int .i64 n, .string ⟨nm.toArray⟩, .slice A1 ks.length c1], .int .i64 0, .int .i64 0]) (by simp [results, Tryz.results7, go_sem, r0, r1, r2, r3]) rfl ?_
    refine ⟨op, n, nm, A1, c1, ks, by rw [HPE0.out], by rw [HPE0.out], ⟨HI4.out.hc, HI4.out.hm, HI4.out.hp, ?_⟩, HBB.out⟩
    exact HRW.out.mono ExV.mono (fun b hb => by have := HS4.out; have := hb.2; omega) ((HK4.out.mono fun b hb => hb.2).trans (keepOn_grown HG4.out fun b hb => ⟨Nat.lt_of_lt_of_le hb.2 hs24, fun q => by have := hb.1; injection q; omega⟩))
end Go.Proofs.YtmbmngnnfkdngaaGreatDoor
