/-
  The reference's Fits and Same.
-/
import Derived.Test.YtcikenlflcofbaaGreatDoorRVe
import Derived.Test.YtcikenlflcofbaaGreatDoorR28
namespace Go.Proofs.YtcikenlflcofbaaGreatDoor
open Go.RowKit

def RetVt (a c : Int) (w : World) (e : Ending) (w' : World) : Prop := e = .returned (.tuple #[.int .i64 a, .int .i64 c]) ∧ Below w.heap.size w w'
theorem rVerify_at {w : World} {p : Pg} {l : Pl} (hpg : PgI w (Old w) p l) {a b c : Int} (h : verP p = (a, b, c)) : Calls Tryz.prog 37 #[pgV p l] w (RetVt a c w) :=
  (rVerify_any hpg).mono (by rintro e w' ⟨rfl, hb⟩; rw [h]; exact ⟨rfl, hb⟩)
theorem poss_false {op n z : Int} {on : Bool} (h : z < 0 ∨ capP ⟨op, n⟩ < z ∨ (on = true ∧ timedB op = true)) : possB ⟨op, n⟩ ⟨on, z⟩ = false := by
  unfold possB
  rcases h with h | h | ⟨h, h'⟩
  · rw [decide_eq_false (by dsimp only; omega), Bool.and_false]
  · rw [decide_eq_false (by dsimp only; omega), Bool.and_false]
  · subst h
    dsimp only
    rw [h']
    rfl
theorem poss_true {op n z : Int} {on : Bool} (h : ¬ z < 0) (h2 : ¬ capP ⟨op, n⟩ < z) (h3 : on = false ∨ timedB op = false) : possB ⟨op, n⟩ ⟨on, z⟩ = true := by
  unfold possB
  rw [decide_eq_true (by dsimp only; omega), Bool.and_true]
  dsimp only
  rcases h3 with h3 | h3
  · rw [h3]; rfl
  · rw [h3, Bool.and_false]; rfl

set_option maxRecDepth 100000 in
set_option maxHeartbeats 8000000 in
theorem rFits_any {w : World} {p : Pg} {l : Pl} {m : Mm} {ml : Ml} (hpg : PgI w (Old w) p l) (hm : MmI w (Old w) m ml) :
    Calls Tryz.prog 17 #[pgV p l, mmV m ml] w (RetB (decide ((verP p).2.2 = 0) && fitsB p m) w) := by
  obtain ⟨B1, k1, B2, k2, B3, k3, B4, k4⟩ := l
  obtain ⟨D1, d1, D2, d2⟩ := ml
  have pm2 := hpg.m2
  have ph2 := hpg.h2
  have pm3 := hpg.m3
  have ph3 := hpg.h3
  have mm1 := hm.m1
  have mh1 := hm.h1
  have mm2 := hm.m2
  have mh2 := hm.h2
  dsimp only at pm2 ph2 pm3 ph3 mm1 mh1 mm2 mh2
  unfold maxLen at pm2 pm3 mm1 mm2
  have hb1 := box_below w (Obj.cells (pgC p ⟨B1, k1, B2, k2, B3, k3, B4, k4⟩) 35)
  have hb2 := box_below (w.alloc (Obj.cells (pgC p ⟨B1, k1, B2, k2, B3, k3, B4, k4⟩) 35)) (Obj.cells (mmC m ⟨D1, d1, D2, d2⟩) 53)
  have hb0 := below_two hb1 hb2 hb1.size
  obtain ⟨va, vm, ve, hvp⟩ : ∃ a b c, verP p = (a, b, c) := ⟨_, _, _, rfl⟩
  have HC := Lib.hid (rVerify_at (hpg.below hb0) hvp)
  have hx1 := (hb2.block w.heap.size (by rw [World.size_alloc]; omega)).trans (heap_alloc_new w (Obj.cells (pgC p ⟨B1, k1, B2, k2, B3, k3, B4, k4⟩) 35))
  have hx2 := heap_alloc_new (w.alloc (Obj.cells (pgC p ⟨B1, k1, B2, k2, B3, k3, B4, k4⟩) 35)) (Obj.cells (mmC m ⟨D1, d1, D2, d2⟩) 53)
  rw [World.size_alloc] at hx2
  have hs2 : ((w.alloc (Obj.cells (pgC p ⟨B1, k1, B2, k2, B3, k3, B4, k4⟩) 35)).alloc (Obj.cells (mmC m ⟨D1, d1, D2, d2⟩) 53)).heap.size = w.heap.size + 2 := by simp only [World.size_alloc]
  have HVP := Lib.hid hvp
  have HPG := Lib.hid hpg
  have HMM := Lib.hid hm
  have HB := Lib.hid hb0
  have HX1 := Lib.hid hx1
  have HX2 := Lib.hid hx2
  have HS2 := Lib.hid hs2
  rw [hvp]
  dsimp only
  obtain ⟨r, hr⟩ : ∃ r, fitsB p m = r := ⟨_, rfl⟩
  rw [hr]
  have hr' : (decide (m.vals.length = p.rls.length ∧ m.cells.length = p.cells.length) && (m.vals.all bitB && (p.cells.zip m.cells).all poB)) = r := hr
  have HR := Lib.hid hr'
  clear hb1 hb2 hb0 hx1 hx2 hs2 hvp hpg hm hr hr'
  go_enter Tryz.func17, Tryz.ntmps17
  go_wp2_with fail
  refine HC.out.mono ?_
  rintro e W ⟨rfl, hb3⟩
  generalize (w.alloc (Obj.cells (pgC p ⟨B1, k1, B2, k2, B3, k3, B4, k4⟩) 35)).alloc (Obj.cells (mmC m ⟨D1, d1, D2, d2⟩) 53) = W2 at *
  have hs2 := HS2.out
  have hs3 := hb3.size
  have hx1 := (hb3.block w.heap.size (by omega)).trans HX1.out
  have hx2 := (hb3.block (w.heap.size + 1) (by omega)).trans HX2.out
  have q1 : W.cell? ⟨w.heap.size, 1, Option.none⟩ = some (.slice B2 p.rls.length k2) := by simp [World.cell?, hx1]
  have q2 : W.cell? ⟨w.heap.size, 2, Option.none⟩ = some (.slice B3 p.cells.length k3) := by simp [World.cell?, hx1]
  have t0 : W.cell? ⟨w.heap.size + 1, 0, Option.none⟩ = some (.slice D1 m.vals.length d1) := by simp [World.cell?, hx2]
  have t1 : W.cell? ⟨w.heap.size + 1, 1, Option.none⟩ = some (.slice D2 m.cells.length d2) := by simp [World.cell?, hx2]
  have hbw := HB.out.trans (hb3.mono (by omega))
  have HBW := Lib.hid hbw
  have HXa := Lib.hid hx1
  have HXb := Lib.hid hx2
  have hl1 : w.heap.size + 1 < W.heap.size := by omega
  have hl0 : w.heap.size < W.heap.size := by omega
  have HR3 := Lib.hid (HPG.out.r3.mono CeC.mono (fun _ q => q) (keepOn_below hbw fun b q => q))
  have HV := Lib.hid (HMM.out.r1.mono IaC.mono (fun _ q => q) (keepOn_below hbw fun b q => q))
  have HCC := Lib.hid (HMM.out.r2.mono CsC.mono (fun _ q => q) (keepOn_below hbw fun b q => q))
  clear hs2 hs3 hx1 hx2 hb3
  by_cases hve : ve = 0
  case neg =>
    have hvb : (ve != 0) = true := by simpa using hve
    have HE := Lib.hid (show false = (decide (ve = 0) && r) by rw [decide_eq_false hve]; rfl)
    clear hve hbw
    go_wp2
    go_ret
    exact ⟨ret_bool HE.out, HBW.out⟩
  subst hve
  have HTR : Hid ((decide ((0 : Int) = 0) && r) = r) := Lib.hid (by rw [decide_eq_true rfl]; rfl)
  rw [HTR.out]
  have HCN := Lib.hid (fun (j : Nat) (c : Cl) (h : p.cells[j]? = some c) => ver_cells (by rw [HVP.out]) h)
  clear hbw
  by_cases hl : m.vals.length = p.rls.length
  case neg =>
    have HE := Lib.hid (show false = r by rw [← HR.out, decide_eq_false (fun q => hl q.1)]; rfl)
    have hne : ((m.vals.length : Int) != (p.rls.length : Int)) = true := by simp; omega
    clear hl
    go_wp2
    go_ret
    exact ⟨ret_bool HE.out, HBW.out⟩
  by_cases hl2 : m.cells.length = p.cells.length
  case neg =>
    have HE := Lib.hid (show false = r by rw [← HR.out, decide_eq_false (fun q => hl2 q.2)]; rfl)
    have hne : ((m.vals.length : Int) != (p.rls.length : Int)) = false := by simp; omega
    have hne2 : ((m.cells.length : Int) != (p.cells.length : Int)) = true := by simp; omega
    clear hl hl2
    go_wp2
    go_ret
    exact ⟨ret_bool HE.out, HBW.out⟩
  have HALL := Lib.hid (show (m.vals.all bitB && (p.cells.zip m.cells).all poB) = r by rw [← HR.out, decide_eq_true ⟨hl, hl2⟩]; rfl)
  have hne : ((m.vals.length : Int) != (p.rls.length : Int)) = false := by simp; omega
  have hne2 : ((m.cells.length : Int) != (p.cells.length : Int)) = false := by simp; omega
  have HZL := Lib.hid (show (p.cells.zip m.cells).length = m.cells.length by rw [List.length_zip]; omega)
  have hle : m.cells.length ≤ p.cells.length := by omega
  clear hl hl2
  go_wp2
  clear hne hne2
  go_loopg [40] (m.vals.length + 1) (fun g v wr => FiA W m.vals g v wr)
  case atStart => exact ⟨0, Nat.zero_le _, by omega, rfl, by rw [List.drop_zero], rfl⟩
  case round =>
    obtain ⟨k, hk, hgk, rfl, hal, rfl⟩ := hrel
    by_cases hlt : k < m.vals.length
    case pos =>
      obtain ⟨b, o, z, hA, hSb, hz, y0⟩ := iaAt HV.out hlt
      have hA2 : D1 = some ⟨b, o, Option.none⟩ := hA
      subst hA2
      have hbk : b < wr.heap.size := by
        have q : b < w.heap.size := hSb
        omega
      have hget : m.vals[k] = z := by
        rw [List.getElem?_eq_getElem hlt] at hz
        injection hz
      rw [List.drop_eq_getElem_cons hlt, hget, List.all_cons] at hal
      have HAL := Lib.hid hal
      have hki : (k : Int) < (m.vals.length : Int) := by omega
      clear hal hz hSb hget
      rcases (show z = 0 ∨ z = 1 ∨ (z ≠ 0 ∧ z ≠ 1) by omega) with rfl | rfl | ⟨e0, e1⟩
      · go_wp2
        go_roundg (m.vals.length - k)
        case measure => omega
        case rel => exact ⟨k + 1, by omega, by omega, by go_num, HAL.out, rfl⟩
      · go_wp2
        go_roundg (m.vals.length - k)
        case measure => omega
        case rel => exact ⟨k + 1, by omega, by omega, by go_num, HAL.out, rfl⟩
      · have HE := Lib.hid (show false = r by rw [← HALL.out, ← HAL.out]; simp [bitB, e0, e1])
        have f0 : (z != 0) = true := by simpa using e0
        have f1 : (z != 1) = true := by simpa using e1
        clear e0 e1 HAL
        go_wp2
        go_ret
        exact ⟨ret_bool HE.out, HBW.out⟩
    obtain rfl : k = m.vals.length := by omega
    rw [List.drop_length] at hal
    have HA2 := Lib.hid (show (p.cells.zip m.cells).all poB = r by rw [← HALL.out, ← hal]; rfl)
    clear hal hlt
    go_wp2
    go_loopg [54] (m.cells.length + 1) (fun g v wq => FiB wr (p.cells.zip m.cells) m.cells.length g v wq)
    case atStart => exact ⟨0, Nat.zero_le _, by omega, rfl, by rw [List.drop_zero], Below.refl _ _⟩
    case round =>
      rename World => wq
      obtain ⟨j, hj, hgj, rfl, hal, hbq⟩ := hrel
      have hsq := hbq.size
      have HBO := Lib.hid (HBW.out.trans (hbq.mono (by omega)))
      by_cases hlt : j < m.cells.length
      case neg =>
        obtain rfl : j = m.cells.length := by omega
        rw [List.drop_eq_nil_of_le (by rw [HZL.out]; exact Nat.le_refl _)] at hal
        have HE := Lib.hid (show true = r by rw [← HA2.out, ← hal]; rfl)
        clear hal hlt hbq
        go_wp2
        go_ret
        exact ⟨ret_bool HE.out, HBO.out⟩
      have hko : KeepOn (Old w) wr wq := keepOn_below hbq fun b q => by
        have q' : b < w.heap.size := q
        omega
      obtain ⟨b, o, lc, hA, hSb, hx, y0, y1⟩ := ceAt (HR3.out.mono CeC.mono (fun _ q => q) hko) (show j < p.cells.length by omega)
      obtain ⟨b', o', cc, hA', hSb', hx', u0, u1⟩ := csAt (HCC.out.mono CsC.mono (fun _ q => q) hko) hlt
      have hA2 : B3 = some ⟨b, o, Option.none⟩ := hA
      subst hA2
      have hA3 : D2 = some ⟨b', o', Option.none⟩ := hA'
      subst hA3
      have hzk : (p.cells.zip m.cells)[j]? = some (lc, cc) := by rw [List.getElem?_zip_eq_some]; exact ⟨hx, hx'⟩
      have hget : (p.cells.zip m.cells)[j]'(by rw [HZL.out]; exact hlt) = (lc, cc) := by
        rw [List.getElem?_eq_getElem (by rw [HZL.out]; exact hlt)] at hzk
        injection hzk
      rw [List.drop_eq_getElem_cons (by rw [HZL.out]; exact hlt), hget, List.all_cons] at hal
      obtain ⟨hn0, hn5⟩ := HCN.out j _ hx
      obtain ⟨op, n⟩ := lc
      obtain ⟨on, z⟩ := cc
      dsimp only at y0 y1 u0 u1 hn0 hn5
      have hpo : poB (⟨op, n⟩, ⟨on, z⟩) = possB ⟨op, n⟩ ⟨on, z⟩ := rfl
      rw [hpo] at hal
      have HAL := Lib.hid hal
      have hx1 := (hbq.block w.heap.size hl0).trans HXa.out
      have hx2 := (hbq.block (w.heap.size + 1) hl1).trans HXb.out
      clear q1 q2 t0 t1
      have q2 : wq.cell? ⟨w.heap.size, 2, Option.none⟩ = some (.slice (some ⟨b, o, Option.none⟩) p.cells.length k3) := by simp [World.cell?, hx1]
      have t1 : wq.cell? ⟨w.heap.size + 1, 1, Option.none⟩ = some (.slice (some ⟨b', o', Option.none⟩) m.cells.length d2) := by simp [World.cell?, hx2]
      have hbk : b < wq.heap.size := by
        have q : b < w.heap.size := hSb
        omega
      have hbk' : b' < wq.heap.size := by
        have q : b' < w.heap.size := hSb'
        omega
      have hlt2 : w.heap.size + 1 < wq.heap.size := by omega
      have hlt3 : w.heap.size < wq.heap.size := by omega
      have hji : (j : Int) < (p.cells.length : Int) := by omega
      have hji2 : (j : Int) < (m.cells.length : Int) := by omega
      have HBX := Lib.hid (hbq.alloc hbq.size (Obj.cells #[.bool on, .int .i64 z] 83))
      have HBY := Lib.hid (HBO.out.alloc (by omega) (Obj.cells #[.bool on, .int .i64 z] 83))
      have HGO := Lib.hid (fun (e : possB ⟨op, n⟩ ⟨on, z⟩ = true) => show ((p.cells.zip m.cells).drop (j + 1)).all poB = (p.cells.zip m.cells).all poB by rw [← HAL.out, e, Bool.true_and])
      have HNO := Lib.hid (fun (e : possB ⟨op, n⟩ ⟨on, z⟩ = false) => show false = r by rw [← HA2.out, ← HAL.out, e, Bool.false_and])
      clear hal hx hx' hzk hget hpo hSb hSb' hbq hx1 hx2 hko HAL
      rcases (show op = 19 ∨ op = 20 ∨ op = 22 ∨ (op ≠ 19 ∧ op ≠ 20 ∧ op ≠ 22) by omega) with rfl | rfl | rfl | ⟨n19, n20, n22⟩
      · skip
        have HCP : Hid (capP ⟨19, n⟩ = n + 1) := Lib.hid (by unfold capP; rw [if_pos rfl])
        have HTB : Hid (timedB 19 = true) := Lib.hid (by unfold timedB; simp)
        by_cases z0 : z < 0
        · have HE := Lib.hid (HNO.out (poss_false (.inl z0)))
          clear HNO HGO HCP HTB
          go_wp2
          go_ret
          exact ⟨ret_bool HE.out, HBY.out⟩
        by_cases z1 : n + 1 < z
        · have HE := Lib.hid (HNO.out (poss_false (.inr (.inl (by rw [HCP.out]; exact z1)))))
          clear HNO HGO HCP HTB
          go_wp2
          go_ret
          exact ⟨ret_bool HE.out, HBY.out⟩
        cases on with
        | true =>
          have HE := Lib.hid (HNO.out (poss_false (.inr (.inr ⟨rfl, HTB.out⟩))))
          clear HNO HGO HCP HTB
          go_wp2
          go_ret
          exact ⟨ret_bool HE.out, HBY.out⟩
        | false =>
          have HE := Lib.hid (HGO.out (poss_true z0 (by rw [HCP.out]; exact z1) (.inl rfl)))
          clear HNO HGO HCP HTB
          go_wp2
          go_roundg (m.cells.length - j)
          case measure => omega
          case rel => exact ⟨j + 1, by omega, by omega, by go_num, HE.out, HBX.out⟩
      · skip
        have HCP : Hid (capP ⟨20, n⟩ = n) := Lib.hid (by unfold capP; rw [if_neg (show ¬ ((20 : Int) = 19) by decide), if_pos rfl])
        have HTB : Hid (timedB 20 = true) := Lib.hid (by unfold timedB; simp)
        by_cases z0 : z < 0
        · have HE := Lib.hid (HNO.out (poss_false (.inl z0)))
          clear HNO HGO HCP HTB
          go_wp2
          go_ret
          exact ⟨ret_bool HE.out, HBY.out⟩
        by_cases z1 : n < z
        · have HE := Lib.hid (HNO.out (poss_false (.inr (.inl (by rw [HCP.out]; exact z1)))))
          clear HNO HGO HCP HTB
          go_wp2
          go_ret
          exact ⟨ret_bool HE.out, HBY.out⟩
        cases on with
        | true =>
          have HE := Lib.hid (HNO.out (poss_false (.inr (.inr ⟨rfl, HTB.out⟩))))
          clear HNO HGO HCP HTB
          go_wp2
          go_ret
          exact ⟨ret_bool HE.out, HBY.out⟩
        | false =>
          have HE := Lib.hid (HGO.out (poss_true z0 (by rw [HCP.out]; exact z1) (.inl rfl)))
          clear HNO HGO HCP HTB
          go_wp2
          go_roundg (m.cells.length - j)
          case measure => omega
          case rel => exact ⟨j + 1, by omega, by omega, by go_num, HE.out, HBX.out⟩
      · skip
        have HCP : Hid (capP ⟨22, n⟩ = 32767) := Lib.hid (by unfold capP; rw [if_neg (show ¬ ((22 : Int) = 19) by decide), if_neg (show ¬ ((22 : Int) = 20) by decide), if_pos rfl])
        have HTB : Hid (timedB 22 = false) := Lib.hid (by unfold timedB; simp)
        by_cases z0 : z < 0
        · have HE := Lib.hid (HNO.out (poss_false (.inl z0)))
          clear HNO HGO HCP HTB
          go_wp2
          go_ret
          exact ⟨ret_bool HE.out, HBY.out⟩
        by_cases z1 : 32767 < z
        · have HE := Lib.hid (HNO.out (poss_false (.inr (.inl (by rw [HCP.out]; exact z1)))))
          clear HNO HGO HCP HTB
          go_wp2
          go_ret
          exact ⟨ret_bool HE.out, HBY.out⟩
        cases on
        all_goals
          have HE := Lib.hid (HGO.out (poss_true z0 (by rw [HCP.out]; exact z1) (.inr HTB.out)))
          clear HNO HGO HCP HTB
          go_wp2
          go_roundg (m.cells.length - j)
          case measure => omega
          case rel => exact ⟨j + 1, by omega, by omega, by go_num, HE.out, HBX.out⟩
      · have b19 : (op == 19) = false := by simpa using n19
        have b20 : (op == 20) = false := by simpa using n20
        have b22 : (op == 22) = false := by simpa using n22
        have HCP : Hid (capP ⟨op, n⟩ = 0) := Lib.hid (by unfold capP; rw [if_neg (by exact n19), if_neg (by exact n20), if_neg (by exact n22)])
        have HTB : Hid (timedB op = false) := Lib.hid (by unfold timedB; simp; omega)
        by_cases z0 : z < 0
        · have HE := Lib.hid (HNO.out (poss_false (.inl z0)))
          clear HNO HGO HCP HTB
          go_wp2
          go_ret
          exact ⟨ret_bool HE.out, HBY.out⟩
        by_cases z1 : 0 < z
        · have HE := Lib.hid (HNO.out (poss_false (.inr (.inl (by rw [HCP.out]; exact z1)))))
          clear HNO HGO HCP HTB
          go_wp2
          go_ret
          exact ⟨ret_bool HE.out, HBY.out⟩
        cases on
        all_goals
          have HE := Lib.hid (HGO.out (poss_true z0 (by rw [HCP.out]; exact z1) (.inr HTB.out)))
          clear HNO HGO HCP HTB
          go_wp2
          go_roundg (m.cells.length - j)
          case measure => omega
          case rel => exact ⟨j + 1, by omega, by omega, by go_num, HE.out, HBX.out⟩

def SmL (W : World) (n g : Nat) (v : Value) (wr : World) : Prop := ∃ k : Nat, k ≤ n ∧ n - k < g ∧ v = .int .i64 (k : Int) ∧ Below W.heap.size W wr
set_option maxRecDepth 100000 in
set_option maxHeartbeats 8000000 in
theorem rSame_any {w : World} {m : Mm} {ml nl : Ml} (hm : MmI w (Old w) m ml) (hn : MmI w (Old w) m nl) :
    Calls Tryz.prog 15 #[mmV m ml, mmV m nl] w (RetB true w) := by
  obtain ⟨D1, d1, D2, d2⟩ := ml
  obtain ⟨E1, e1, E2, e2⟩ := nl
  have mm1 := hm.m1
  have mh1 := hm.h1
  have mm2 := hm.m2
  have mh2 := hm.h2
  have nm1 := hn.m1
  have nh1 := hn.h1
  have nm2 := hn.m2
  have nh2 := hn.h2
  dsimp only at mm1 mh1 mm2 mh2 nm1 nh1 nm2 nh2
  unfold maxLen at mm1 mm2 nm1 nm2
  have hb1 := box_below w (Obj.cells (mmC m ⟨D1, d1, D2, d2⟩) 53)
  have hb2 := box_below (w.alloc (Obj.cells (mmC m ⟨D1, d1, D2, d2⟩) 53)) (Obj.cells (mmC m ⟨E1, e1, E2, e2⟩) 53)
  have hb0 := below_two hb1 hb2 hb1.size
  have hx1 := (hb2.block w.heap.size (by rw [World.size_alloc]; omega)).trans (heap_alloc_new w (Obj.cells (mmC m ⟨D1, d1, D2, d2⟩) 53))
  have hx2 := heap_alloc_new (w.alloc (Obj.cells (mmC m ⟨D1, d1, D2, d2⟩) 53)) (Obj.cells (mmC m ⟨E1, e1, E2, e2⟩) 53)
  rw [World.size_alloc] at hx2
  have hs2 : ((w.alloc (Obj.cells (mmC m ⟨D1, d1, D2, d2⟩) 53)).alloc (Obj.cells (mmC m ⟨E1, e1, E2, e2⟩) 53)).heap.size = w.heap.size + 2 := by simp only [World.size_alloc]
  have HV := Lib.hid (hm.r1.mono IaC.mono (fun _ q => q) (keepOn_below hb0 fun b q => q))
  have HCC := Lib.hid (hm.r2.mono CsC.mono (fun _ q => q) (keepOn_below hb0 fun b q => q))
  have HW := Lib.hid (hn.r1.mono IaC.mono (fun _ q => q) (keepOn_below hb0 fun b q => q))
  have HCD := Lib.hid (hn.r2.mono CsC.mono (fun _ q => q) (keepOn_below hb0 fun b q => q))
  have HB := Lib.hid hb0
  have HX1 := Lib.hid hx1
  have HX2 := Lib.hid hx2
  have HS2 := Lib.hid hs2
  clear hb1 hb2 hb0 hx1 hx2 hs2 hm hn
  go_enter Tryz.func15, Tryz.ntmps15
  go_wp2
  generalize (w.alloc (Obj.cells (mmC m ⟨D1, d1, D2, d2⟩) 53)).alloc (Obj.cells (mmC m ⟨E1, e1, E2, e2⟩) 53) = W at *
  have hs2 := HS2.out
  have q0 : W.cell? ⟨w.heap.size, 0, Option.none⟩ = some (.slice D1 m.vals.length d1) := by simp [World.cell?, HX1.out]
  have q1 : W.cell? ⟨w.heap.size, 1, Option.none⟩ = some (.slice D2 m.cells.length d2) := by simp [World.cell?, HX1.out]
  have t0 : W.cell? ⟨w.heap.size + 1, 0, Option.none⟩ = some (.slice E1 m.vals.length e1) := by simp [World.cell?, HX2.out]
  have t1 : W.cell? ⟨w.heap.size + 1, 1, Option.none⟩ = some (.slice E2 m.cells.length e2) := by simp [World.cell?, HX2.out]
  have hl1 : w.heap.size + 1 < W.heap.size := by omega
  have hl0 : w.heap.size < W.heap.size := by omega
  clear hs2
  go_loopg [26] (m.vals.length + 1) (fun g v wr => SmL W m.vals.length g v wr)
  case atStart => exact ⟨0, Nat.zero_le _, by omega, rfl, Below.refl _ _⟩
  case round =>
    obtain ⟨k, hk, hgk, rfl, hbr⟩ := hrel
    have hsr := hbr.size
    have HBR := Lib.hid hbr
    have hx1 := (hbr.block w.heap.size hl0).trans HX1.out
    have hx2 := (hbr.block (w.heap.size + 1) hl1).trans HX2.out
    have hko : KeepOn (Old w) W wr := keepOn_below hbr fun b q => by
      have q' : b < w.heap.size := q
      omega
    have HKO := Lib.hid hko
    have HXa := Lib.hid hx1
    have HXb := Lib.hid hx2
    have hr1 : w.heap.size + 1 < wr.heap.size := by omega
    have hr0 : w.heap.size < wr.heap.size := by omega
    clear q0 q1 t0 t1
    by_cases hlt : k < m.vals.length
    case pos =>
      obtain ⟨b, o, z, hA, hSb, hz, y0⟩ := iaAt (HV.out.mono IaC.mono (fun _ q => q) hko) hlt
      obtain ⟨b', o', z', hA', hSb', hz', y0'⟩ := iaAt (HW.out.mono IaC.mono (fun _ q => q) hko) hlt
      rw [hz] at hz'
      cases hz'
      have hA2 : D1 = some ⟨b, o, Option.none⟩ := hA
      subst hA2
      have hA3 : E1 = some ⟨b', o', Option.none⟩ := hA'
      subst hA3
      have hbk : b < wr.heap.size := by
        have q : b < w.heap.size := hSb
        omega
      have hbk' : b' < wr.heap.size := by
        have q : b' < w.heap.size := hSb'
        omega
      have hki : (k : Int) < (m.vals.length : Int) := by omega
      have q0 : wr.cell? ⟨w.heap.size, 0, Option.none⟩ = some (.slice (some ⟨b, o, Option.none⟩) m.vals.length d1) := by simp [World.cell?, hx1]
      have t0 : wr.cell? ⟨w.heap.size + 1, 0, Option.none⟩ = some (.slice (some ⟨b', o', Option.none⟩) m.vals.length e1) := by simp [World.cell?, hx2]
      clear hbr hx1 hx2 hko hz hSb hSb'
      go_upto_region 6 with fail
      go_region_held3 (fun w' => w'.cell? ⟨w.heap.size, 0, Option.none⟩ = some (.slice (some ⟨b, o, Option.none⟩) m.vals.length d1) ∧ w'.cell? ⟨w.heap.size + 1, 0, Option.none⟩ = some (.slice (some ⟨b', o', Option.none⟩) m.vals.length e1) ∧ w'.cell? ⟨b, o + k, Option.none⟩ = some (.int .i64 z) ∧ w'.cell? ⟨b', o' + k, Option.none⟩ = some (.int .i64 z)) (go_keep) (fail)
      all_goals
        go_wp2
        go_roundg (m.vals.length - k)
        case measure => omega
        case rel => exact ⟨k + 1, by omega, by omega, by go_num, below_drew HBR.out⟩
    obtain rfl : k = m.vals.length := by omega
    have q1 : wr.cell? ⟨w.heap.size, 1, Option.none⟩ = some (.slice D2 m.cells.length d2) := by simp [World.cell?, hx1]
    clear hbr hx1 hx2 hko hlt
    go_wp2
    clear q1
    go_loopg [44] (m.cells.length + 1) (fun g v wq => SmL wr m.cells.length g v wq)
    case atStart => exact ⟨0, Nat.zero_le _, by omega, rfl, Below.refl _ _⟩
    case round =>
      rename World => wq
      obtain ⟨k, hk, hgk, rfl, hbq⟩ := hrel
      have hsq := hbq.size
      have HBQ := Lib.hid hbq
      have HBZ := Lib.hid (below_two HB.out (below_two HBR.out hbq HBR.out.size) HB.out.size)
      by_cases hlt : k < m.cells.length
      case neg =>
        obtain rfl : k = m.cells.length := by omega
        clear hbq hlt
        go_wp2
        go_ret
        exact ⟨rfl, HBZ.out⟩
      have hx1 := (hbq.block w.heap.size hr0).trans HXa.out
      have hx2 := (hbq.block (w.heap.size + 1) hr1).trans HXb.out
      have hko : KeepOn (Old w) W wq := fun b q => by
        have q' : b < w.heap.size := q
        exact (hbq.block b (by omega)).trans (HKO.out b q)
      obtain ⟨b, o, c, hA, hSb, hz, y0, y1⟩ := csAt (HCC.out.mono CsC.mono (fun _ q => q) hko) hlt
      obtain ⟨b', o', c', hA', hSb', hz', z0, z1⟩ := csAt (HCD.out.mono CsC.mono (fun _ q => q) hko) hlt
      rw [hz] at hz'
      cases hz'
      obtain ⟨on, cn⟩ := c
      dsimp only at y0 y1 z0 z1
      have hA2 : D2 = some ⟨b, o, Option.none⟩ := hA
      subst hA2
      have hA3 : E2 = some ⟨b', o', Option.none⟩ := hA'
      subst hA3
      have hbk : b < wq.heap.size := by
        have q : b < w.heap.size := hSb
        omega
      have hbk' : b' < wq.heap.size := by
        have q : b' < w.heap.size := hSb'
        omega
      have hki : (k : Int) < (m.cells.length : Int) := by omega
      have hr1' : w.heap.size + 1 < wq.heap.size := by omega
      have hr0' : w.heap.size < wq.heap.size := by omega
      have q0 : wq.cell? ⟨w.heap.size, 1, Option.none⟩ = some (.slice (some ⟨b, o, Option.none⟩) m.cells.length d2) := by simp [World.cell?, hx1]
      have t0 : wq.cell? ⟨w.heap.size + 1, 1, Option.none⟩ = some (.slice (some ⟨b', o', Option.none⟩) m.cells.length e2) := by simp [World.cell?, hx2]
      clear hbq hx1 hx2 hko hz hSb hSb'
      go_upto_region 12 with fail
      go_region_held3 (fun w' => w'.cell? ⟨w.heap.size, 1, Option.none⟩ = some (.slice (some ⟨b, o, Option.none⟩) m.cells.length d2) ∧ w'.cell? ⟨w.heap.size + 1, 1, Option.none⟩ = some (.slice (some ⟨b', o', Option.none⟩) m.cells.length e2) ∧ w'.cell? ⟨b, o + k * 2, Option.none⟩ = some (.bool on) ∧ w'.cell? ⟨b, o + k * 2 + 1, Option.none⟩ = some (.int .i64 cn) ∧ w'.cell? ⟨b', o' + k * 2, Option.none⟩ = some (.bool on) ∧ w'.cell? ⟨b', o' + k * 2 + 1, Option.none⟩ = some (.int .i64 cn)) (go_keep) (fail)
      all_goals
        go_wp2
        go_roundg (m.cells.length - k)
        case measure => omega
        case rel => exact ⟨k + 1, by omega, by omega, by go_num, below_drew HBQ.out⟩
end Go.Proofs.YtcikenlflcofbaaGreatDoor
