/-
  The level relation.
-/
import Derived.Test.YtmbmngnnfkdngaaGreatDoorNot
namespace Go.Proofs.YtmbmngnnfkdngaaGreatDoor
open Go.RowKit

attribute [local go_sem] fieldTok1
theorem rel_cases (s : List UInt8) : ([[60], [62], [61]].contains s = false ∧ (s == [60]) = false ∧ (s == [62]) = false ∧ (s == [61]) = false) ∨
    ([[60], [62], [61]].contains s = true ∧ ((s == [60]) = true ∨ ((s == [60]) = false ∧ (s == [62]) = true) ∨ ((s == [60]) = false ∧ (s == [62]) = false ∧ (s == [61]) = true))) := by
  simp only [List.contains_cons, List.contains_nil, Bool.or_false]
  cases (s == [60]) <;> cases (s == [62]) <;> cases (s == [61]) <;> simp
theorem XV.grown {w w' : World} {row : Option Nat} {b : Nat} {op n : Int} {nm : List UInt8} {A : Option Addr} {k c : Nat} (h : XV w b op n nm A k c) (hg : w.grownBy w' row) (hb : some b ≠ row) : XV w' b op n nm A k c := ⟨(hg.block b h.lt hb).trans h.heap⟩

set_option maxRecDepth 100000 in
set_option maxHeartbeats 4000000 in
theorem rel_part {pb : Nat} {A : Option Addr} {c : Nat} {L : List Tok} {f : Nat} (hP : Part pb A c L 97 (pLev L f .sum)) :
    Part pb A c L 89 (pLev L (f + 1) .rel) := by
  intro i late w r hs hr
  unfold pLev at hr
  have hb1 := box_below w (Obj.cells #[.int .i64 0, .int .i64 0, .string ⟨#[]⟩, .slice Option.none 0 0] 25)
  have hZ := ZB.new w
  have hpl := hs.ltp
  have hps := hs.below hb1
  have HP := Lib.hid hP
  have HPS := Lib.hid hps
  have HZ := Lib.hid hZ
  have HR := Lib.hid hr
  clear hP hs hps hZ hr
  go_enter Tryz.func89, Tryz.ntmps89
  go_wp2_with fail
  rcases Res.go_some HR.out with ⟨a, er, h1, rfl⟩ | ⟨x, j, la, h1, h2⟩
  · refine (HP.out _ _ _ _ HPS.out h1).mono ?_
    rintro e' w1 h1
    obtain ⟨rfl, -⟩ := id h1
    exact bodyPost_panic rfl (RetStop.pre hb1 h1)
  have H2 := Lib.hid h2
  clear h2 HR
  refine (HP.out _ _ _ _ HPS.out h1).mono ?_
  rintro e' w1 ⟨op, n, nm, A1, c1, ks, rfl, rfl, hc1, hm1, hp1, hr1, hl1, hj⟩
  unfold exV
  have hbx := box_below w1 (Obj.cells #[.int .i64 op, .int .i64 n, .string ⟨nm.toArray⟩, .slice A1 ks.length c1] 25)
  have hs1 := hl1.1.size
  have HL1 := Lib.hid hl1
  have HR1 := Lib.hid hr1
  have HZ1 := Lib.hid (HZ.out.left hl1 (by omega))
  have hps1 := (HPS.out.left hl1 hj).below hbx
  have hlt := hps1.take_lt
  have C1 := peek_any hps1
  have C2 := fun W hb => take_any (hps1.below (w' := W) hb)
  unfold RetTok at C1
  unfold RetTake at C2
  have HC1 := Lib.hid C1
  have HC2 := Lib.hid C2
  have HPS1 := Lib.hid hps1
  simp only [World.size_alloc] at hs1
  clear hl1 hr1 C1 C2 hps1 HZ HPS h1
  obtain ⟨t, ht⟩ : ∃ t, tk L j = t := ⟨_, rfl⟩
  rw [ht] at HC1 HC2 H2
  clear ht
  rcases rel_cases t.text with ⟨hq, q1, q2, q3⟩ | ⟨hq, hits⟩
  · have h2 := H2.out
    rw [hq] at h2
    obtain rfl : Except.ok (Ex.mk op n nm ks, j, la) = r := by injection h2
    clear h2 H2 hq
    go_wp2_with fail
    refine HC1.out.mono ?_
    rintro e' w2 ⟨rfl, hb2⟩
    unfold tokV
    have Z2 := (HZ1.out.below hbx).below hb2
    have X2 := (XV.new w1 op n nm A1 ks.length c1).grown (grown_of_below (row := Option.none) hb2) (by simp)
    have hs2 := hb2.size
    simp only [World.size_alloc] at hs2
    have HL := Lib.hid (Left.below (Left.below (Left.pre hb1 HL1.out) hbx) hb2)
    obtain ⟨q0, q1', q2', q3', z0, z1, z2, z3⟩ := XV.cells Z2
    obtain ⟨x0, x1, x2, x3, -, -, -, -⟩ := X2.cells
    have HPT := Lib.hid (put_cells Z2 op n nm A1 ks.length c1)
    have HK := Lib.hid ((keepOn_below hbx fun b (hb : b < w1.heap.size) => hb).trans (keepOn_below hb2 fun b (hb : b < w1.heap.size) => by simp; omega))
    clear Z2 X2 hb2 HC1 HC2 hbx HL1 HZ1
    go_wp2
    change bodyPost _ _ _ _ _ (set4 w2 w.heap.size (.int .i64 op) (.int .i64 n) (.string ⟨nm.toArray⟩) (.slice A1 ks.length c1))
    obtain ⟨r0, r1, r2, r3, -, -, -, -⟩ := HPT.out.cells
    refine bodyPost_ret (v := exV op n nm A1 ks.length c1) (by simp [results, Tryz.results89, go_sem, exV, r0, r1, r2, r3]) rfl ?_
    refine RetEx.put (S := fun b => w.heap.size < b ∧ b < w1.heap.size) hc1 hm1 hp1 (HR1.out.mono ExV.mono (fun b hb => ?_) (HK.out.mono fun b hb => hb.2)) (fun b hb => by omega) HL.out hj hpl
    have h1 := hb.1
    simp only [World.size_alloc] at h1
    exact ⟨by omega, hb.2⟩
  · have h2 := H2.out
    rw [hq] at h2
    simp only [if_true] at h2
    have H3 := Lib.hid h2
    have HOP := Lib.hid (opP_wf t.text)
    have C3 := fun W => operation_any t.text W
    have HC3 := Lib.hid C3
    clear h2 H2 hq C3
    rcases hits with q1 | ⟨q1, q2⟩ | ⟨q1, q2, q3⟩
    all_goals
      go_wp2_with fail
      refine HC1.out.mono ?_
      rintro e' w2 ⟨rfl, hb2⟩
      unfold tokV
      have Z2 := (HZ1.out.below hbx).below hb2
      have X2 := (XV.new w1 op n nm A1 ks.length c1).grown (grown_of_below (row := Option.none) hb2) (by simp)
      have G2 := (grown_of_below (row := some pb) hbx).trans (grown_of_below hb2)
      have L2 := Left.below (Left.below (Left.pre hb1 HL1.out) hbx) hb2
      have hs2 := hb2.size
      simp only [World.size_alloc] at hs2
      have HZ2 := Lib.hid Z2
      have HX2 := Lib.hid X2
      have HG2 := Lib.hid G2
      have HL2 := Lib.hid L2
      clear Z2 X2 G2 L2
      go_wp2_with fail
      refine (HC2.out _ hb2).mono ?_
      rintro e' w3 ⟨rfl, hl3⟩
      unfold tokV
      have hs3 := hl3.1.size
      have HZ3 := Lib.hid (HZ2.out.left hl3 (by omega))
      have HX3 := Lib.hid (HX2.out.grown hl3.1 (by intro h; injection h; omega))
      have HG3 := Lib.hid (HG2.out.trans hl3.1)
      have HL3 := Lib.hid (HL2.out.trans hl3)
      have HP3 := Lib.hid ((HPS1.out.below hb2).left hl3 hlt)
      clear hl3 HZ2 HX2 HG2 HL2 hb2
      go_wp2_with fail
      refine (HC3.out _).mono ?_
      rintro e' w4 ⟨rfl, hb4⟩
      have hs4 := hb4.size
      have HZ4 := Lib.hid (HZ3.out.below hb4)
      have HX4 := Lib.hid (HX3.out.grown (grown_of_below (row := Option.none) hb4) (by simp))
      have HG4 := Lib.hid (HG3.out.trans (grown_of_below hb4))
      have HL4 := Lib.hid (HL3.out.below hb4)
      have HP4 := Lib.hid (HP3.out.below hb4)
      clear hb4 HZ3 HX3 HG3 HL3 HP3
      go_wp2_with fail
      rcases Res.go_some H3.out with ⟨a, er, h1, rfl⟩ | ⟨y, j2, la2, h1, h2⟩
      · refine (HP.out _ _ _ _ HP4.out h1).mono ?_
        rintro e' w5 ⟨rfl, hg⟩
        exact bodyPost_panic rfl ⟨rfl, HL4.out.1.trans hg⟩
      obtain rfl : Except.ok (Ex.mk (operationP t.text) 0 [] [.mk op n nm ks, y], j2, la2) = r := by injection h2
      clear h2 H3
      refine (HP.out _ _ _ _ HP4.out h1).mono ?_
      rintro e' w5 ⟨op2, n2, nm2, A2, c2, ks2, rfl, rfl, hc2, hm2, hp2, hr2, hl2, hj2⟩
      unfold exV
      have hs5 := hl2.1.size
      have Z5 := HZ4.out.left hl2 (by omega)
      have X5 := HX4.out.grown hl2.1 (by intro h; injection h; omega)
      have HG5 := Lib.hid (HG4.out.trans hl2.1)
      have HL5 := Lib.hid (HL4.out.trans hl2)
      have HR2 := Lib.hid hr2
      obtain ⟨p0, p1, p2, p3, z0, z1, z2, z3⟩ := XV.cells Z5
      obtain ⟨x0, x1, x2, x3, -, -, -, -⟩ := X5.cells
      have hzl := XV.lt Z5
      have hxl := X5.lt
      have HPT := Lib.hid (put_cells Z5 (operationP t.text) 0 [] (some ⟨w5.heap.size + 1, 0, Option.none⟩) 2 2)
      clear hl2 hr2 HG4 HL4 HZ4 HX4 HP4 h1 HC1 HC2 HC3 hbx hb1 Z5 X5 HL1 HZ1
      generalize hopn : operationP t.text = opn at *
      clear hopn
      go_wp2
      have hE := ret_two (S := fun b => w.heap.size < b ∧ b < w5.heap.size) (w := w) (w1 := w5) opn HOP.out.1 hc1 hm1 hp1
        (HR1.out.mono ExV.mono (fun b hb => by have h1 := hb.1; have h2 := hb.2; simp only [World.size_alloc] at h1; omega) (keepOn_grown HG5.out fun b hb => ⟨hb.2, fun q => by have h1 := hb.1; simp only [World.size_alloc] at h1; injection q; omega⟩))
        hc2 hm2 hp2 (HR2.out.mono ExV.mono (fun b hb => by have h1 := hb.1; have h2 := hb.2; omega) (KeepOn.refl _ _)) (fun b hb => hb) HL5.out hj2 hpl hzl (Obj.cells #[.int .i64 op2, .int .i64 n2, .string ⟨nm2.toArray⟩, .slice A2 ks2.length c2] 25)
      obtain ⟨r0, r1, r2, r3, -, -, -, -⟩ := HPT.out.cells
      have hsz4 := set4_size w5 w.heap.size (.int .i64 opn) (.int .i64 0) (.string ⟨#[]⟩) (.slice (some ⟨w5.heap.size + 1, 0, Option.none⟩) 2 2)
      change bodyPost _ _ _ _ _ (((set4 w5 w.heap.size (.int .i64 opn) (.int .i64 0) (.string ⟨#[]⟩) (.slice (some ⟨w5.heap.size + 1, 0, Option.none⟩) 2 2)).alloc _).alloc _)
      have hlt4 : w.heap.size < (set4 w5 w.heap.size (.int .i64 opn) (.int .i64 0) (.string ⟨#[]⟩) (.slice (some ⟨w5.heap.size + 1, 0, Option.none⟩) 2 2)).heap.size := by omega
      refine bodyPost_ret (v := exV opn 0 [] (some ⟨w5.heap.size + 1, 0, Option.none⟩) 2 2) ?_ rfl hE
      generalize set4 w5 w.heap.size (.int .i64 opn) (.int .i64 0) (.string ⟨#[]⟩) (.slice (some ⟨w5.heap.size + 1, 0, Option.none⟩) 2 2) = V at *
      simp [results, Tryz.results89, go_sem, exV, r0, r1, r2, r3, hlt4, Nat.lt_succ_of_lt hlt4]
end Go.Proofs.YtmbmngnnfkdngaaGreatDoor
