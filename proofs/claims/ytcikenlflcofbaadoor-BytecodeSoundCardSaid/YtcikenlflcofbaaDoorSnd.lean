/-
  BytecodeSound: what Compile returns is verified, and Decompile returns the expressions of its rules.
-/
import Derived.Test.YtcikenlflcofbaaDoorK27
import Derived.Test.YtcikenlflcofbaaDoorDec
import Derived.Test.YtcikenlflcofbaaDoorSaX
import Derived.Deep.RegionHeld3
namespace Go.Proofs.YtcikenlflcofbaaDoor
open Go.RowKit

theorem cmp_sound {rs : List Rl} {ins : List Sg} {p : Pg} {a : Int} (h : cmpP rs ins = (p, a, 0)) : ∃ (m : Int) (xs : List Ex) (b : Int), m ≤ 24 ∧ verP p = (0, m, 0) ∧ decP p = (xs, 0) ∧ rulP rs ins = (xs, b, 0) := by
  unfold cmpP at h
  by_cases hc : (compP rs ins).2.2 = 0
  · rw [if_pos hc] at h
    injection h with h1 h2
    subst h1
    obtain ⟨env, ho, -⟩ := cmp_ok hc
    refine ⟨_, _, (rulP rs ins).2.1, ho.few.2.2, cmp_verifies ho fun t ht => parse_valid ht, cmp_decompiles ho fun t ht => parse_valid ht, ?_⟩
    rw [← ho.rul0]
  · rw [if_neg hc] at h
    injection h with h1 h2
    exact absurd (by rw [h2]) hc
theorem cmp_nil {rs : List Rl} {ins : List Sg} {p : Pg} {a e : Int} (h : cmpP rs ins = (p, a, e)) (he : e ≠ 0) : p.code.length = 0 := by
  unfold cmpP at h
  by_cases hc : (compP rs ins).2.2 = 0
  · rw [if_pos hc] at h
    injection h with h1 h2
    exact absurd (by rw [h2] at hc; exact hc) he
  · rw [if_neg hc] at h
    injection h with h1 h2
    rw [← h1]
    rfl
theorem keep8 {w w' : World} {a0 a1 a2 a3 a4 a5 a6 a7 : Addr} {v0 v1 v2 v3 v4 v5 v6 v7 : Value} (hb : Below w.heap.size w w') (h0 : w.cell? a0 = some v0) (h1 : w.cell? a1 = some v1) (h2 : w.cell? a2 = some v2) (h3 : w.cell? a3 = some v3) (h4 : w.cell? a4 = some v4) (h5 : w.cell? a5 = some v5) (h6 : w.cell? a6 = some v6) (h7 : w.cell? a7 = some v7) :
    w'.cell? a0 = some v0 ∧ w'.cell? a1 = some v1 ∧ w'.cell? a2 = some v2 ∧ w'.cell? a3 = some v3 ∧ w'.cell? a4 = some v4 ∧ w'.cell? a5 = some v5 ∧ w'.cell? a6 = some v6 ∧ w'.cell? a7 = some v7 :=
  ⟨cell_below h0 hb, cell_below h1 hb, cell_below h2 hb, cell_below h3 hb, cell_below h4 hb, cell_below h5 hb, cell_below h6 hb, cell_below h7 hb⟩
def SnR (W : World) (n : Nat) (g : Nat) (v : Value) (wr : World) : Prop := ∃ k, k ≤ n ∧ n - k < g ∧ v = .int .i64 (k : Int) ∧ Below W.heap.size W wr

set_option maxRecDepth 100000 in
set_option maxHeartbeats 8000000 in
theorem snd_any (A0 : Option Addr) (c0 : Nat) (rs : List Rl) (A1 : Option Addr) (c1 : Nat) (ins : List Sg) (w : World) (hw : Lw w) (hc0 : rs.length ≤ c0) (hm0 : c0 ≤ maxLen) (hr0 : Rw RlC 2 w (Old w) A0 rs.length rs)
    (hc1 : ins.length ≤ c1) (hm1 : c1 ≤ maxLen) (hr1 : Rw SgC 2 w (Old w) A1 ins.length ins) :
    Calls Tryd.prog 5 #[.slice A0 rs.length c0, .slice A1 ins.length c1] w (RetB true w) := by
  have HF := Lib.hid (few_any A0 c0 rs A1 c1 ins w hr0)
  have HK := Lib.hid (fun W (h : Below w.heap.size w W) => known_any W (hw.below h))
  have HCM := Lib.hid (fun W (h : Below w.heap.size w W) => compile_any A0 c0 rs A1 c1 ins W (hw.below h) hc0 hm0 (hr0.mono RlC.mono (fun b q => Nat.lt_of_lt_of_le q h.size) (keepOn_below h fun b q => q)) hc1 hm1 (hr1.mono SgC.mono (fun b q => Nat.lt_of_lt_of_le q h.size) (keepOn_below h fun b q => q)))
  have HRL := Lib.hid (fun W (h : Below w.heap.size w W) => rules_any A0 c0 rs A1 c1 ins W (hw.below h) hc0 hm0 (hr0.mono RlC.mono (fun b q => Nat.lt_of_lt_of_le q h.size) (keepOn_below h fun b q => q)) hc1 hm1 (hr1.mono SgC.mono (fun b q => Nat.lt_of_lt_of_le q h.size) (keepOn_below h fun b q => q)))
  obtain ⟨fb, hfb⟩ : ∃ fb, fewP rs ins = fb := ⟨_, rfl⟩
  rw [hfb] at HF
  clear hw hr0 hr1 hc0 hm0 hc1 hm1 hfb
  cases fb with
  | false =>
    go_enter Tryd.func5, Tryd.ntmps5
    go_wp2_with fail
    refine HF.out.mono ?_
    rintro e w1 ⟨rfl, hb1⟩
    have HB1 := Lib.hid hb1
    clear hb1
    go_wp2_with fail
    refine (HK.out _ HB1.out).mono ?_
    rintro e w2 ⟨rfl, hb2⟩
    have HB2 := Lib.hid (below_two HB1.out hb2 HB1.out.size)
    clear hb2
    go_wp2
    go_ret
    exact ⟨rfl, HB2.out⟩
  | true =>
  obtain ⟨p, pa, pe, hcp⟩ : ∃ p a e, cmpP rs ins = (p, a, e) := ⟨_, _, _, rfl⟩
  have HCP := Lib.hid hcp
  clear hcp
  go_enter Tryd.func5, Tryd.ntmps5
  go_wp2_with fail
  refine HF.out.mono ?_
  rintro e w1 ⟨rfl, hb1⟩
  have HB1 := Lib.hid hb1
  clear hb1
  go_wp2_with fail
  refine (HCM.out _ HB1.out).mono ?_
  intro e w2 hret
  obtain ⟨D1, d1, D2, d2, D3, d3, D4, d4, rfl, hpg, hb2⟩ := hret.of HCP.out
  have hbx := box_below w2 (Obj.cells (pgC p ⟨D1, d1, D2, d2, D3, d3, D4, d4⟩) 32)
  have HPX := Lib.hid (heap_alloc_new w2 (Obj.cells (pgC p ⟨D1, d1, D2, d2, D3, d3, D4, d4⟩) 32))
  have hs2 := World.size_alloc w2 (Obj.cells (pgC p ⟨D1, d1, D2, d2, D3, d3, D4, d4⟩) 32)
  have hb3 := below_two (below_two HB1.out hb2 HB1.out.size) hbx (below_two HB1.out hb2 HB1.out.size).size
  have HB3 := Lib.hid hb3
  have HPG := Lib.hid (hpg.mono (S' := fun b => b < w2.heap.size) (fun b q => q.2) (keepOn_below hbx fun b q => q.2))
  have HS2 := Lib.hid hs2
  clear hret hpg hb2 hbx hs2 hb3 HCM
  go_upto_region 4 with fail
  generalize w2.alloc (Obj.cells (pgC p ⟨D1, d1, D2, d2, D3, d3, D4, d4⟩) 32) = W3 at *
  by_cases hpe : pe = 0
  case neg =>
    have hpb : (pe != 0) = true := by simpa using hpe
    have HN := Lib.hid (cmp_nil HCP.out hpe)
    clear hpe
    go_wp2_with fail
    refine (HK.out _ HB3.out).mono ?_
    rintro e w4 ⟨rfl, hb4⟩
    have hs2 := HS2.out
    have hl2 : w2.heap.size < W3.heap.size := by omega
    have hpx := (hb4.block w2.heap.size hl2).trans HPX.out
    have q3 : w4.cell? ⟨w2.heap.size, 3, Option.none⟩ = some (.slice D4 0 d4) := by
      rw [← HN.out]
      simp [World.cell?, hpx]
    have hl4 : w2.heap.size < w4.heap.size := by have := hb4.size; omega
    have HB4 := Lib.hid (below_two HB3.out hb4 HB3.out.size)
    clear hb4 hpx hs2
    go_wp2
    go_ret
    exact ⟨rfl, HB4.out⟩
  subst hpe
  obtain ⟨m, xs, b2, hm24, hver, hdec, hrul⟩ := cmp_sound HCP.out
  have HVER := Lib.hid hver
  have HDEC := Lib.hid hdec
  have HRUL := Lib.hid hrul
  clear hver hdec hrul
  have hs2 := HS2.out
  have hpx := HPX.out
  have q0 : W3.cell? ⟨w2.heap.size, 0, Option.none⟩ = some (.slice D1 p.ins.length d1) := by simp [World.cell?, hpx]
  have q1 : W3.cell? ⟨w2.heap.size, 1, Option.none⟩ = some (.slice D2 p.rls.length d2) := by simp [World.cell?, hpx]
  have q2 : W3.cell? ⟨w2.heap.size, 2, Option.none⟩ = some (.slice D3 p.cells.length d3) := by simp [World.cell?, hpx]
  have q3 : W3.cell? ⟨w2.heap.size, 3, Option.none⟩ = some (.slice D4 p.code.length d4) := by simp [World.cell?, hpx]
  have hl2 : w2.heap.size < W3.heap.size := by omega
  have HPO := Lib.hid (HPG.out.mono (S' := Old W3) (fun b q => Nat.lt_trans q hl2) (KeepOn.refl _ _))
  have hve := Verify_any HPO.out
  rw [HVER.out] at hve
  have HVE := Lib.hid hve
  clear hpx hs2 hve
  go_wp2_with fail
  refine HVE.out.mono ?_
  rintro e w4 ⟨rfl, hb4⟩
  have hpx := (hb4.block w2.heap.size hl2).trans HPX.out
  clear q0 q1 q2 q3
  have q0 : w4.cell? ⟨w2.heap.size, 0, Option.none⟩ = some (.slice D1 p.ins.length d1) := by simp [World.cell?, hpx]
  have q1 : w4.cell? ⟨w2.heap.size, 1, Option.none⟩ = some (.slice D2 p.rls.length d2) := by simp [World.cell?, hpx]
  have q2 : w4.cell? ⟨w2.heap.size, 2, Option.none⟩ = some (.slice D3 p.cells.length d3) := by simp [World.cell?, hpx]
  have q3 : w4.cell? ⟨w2.heap.size, 3, Option.none⟩ = some (.slice D4 p.code.length d4) := by simp [World.cell?, hpx]
  have hl4 : w2.heap.size < w4.heap.size := by have := hb4.size; omega
  have HDC := Lib.hid (Dec_any (HPO.out.below hb4))
  have HB4 := Lib.hid hb4
  clear hpx hb4 HVE
  go_wp2_with fail
  refine HDC.out.mono ?_
  rintro e w5 ⟨A5, c5, rfl, hc5, hm5, hr5, hb5⟩
  rw [HDEC.out] at hc5 hr5 ⊢
  dsimp only at hc5 hr5 ⊢
  have hb35 := below_two HB4.out hb5 HB4.out.size
  have HB35 := Lib.hid hb35
  have HB5 := Lib.hid (below_two HB3.out hb35 HB3.out.size)
  have HR5 := Lib.hid (hr5.mono (S' := fun b => b < w5.heap.size) ExV.mono (fun b q => q.2) (KeepOn.refl _ _))
  clear hr5 hb5 hb35 HDC q0 q1 q2 q3
  go_wp2_with fail
  refine (HRL.out _ HB5.out).mono ?_
  rintro e w6 ⟨v6, xs6, a6, er6, T6, hrul, rfl, hown6, hb6⟩
  rw [HRUL.out] at hrul
  injection hrul with r1 r2
  injection r2 with r2 r3
  subst r1
  subst r2
  subst r3
  obtain ⟨A6, c6, rfl, hc6, hm6⟩ := hown6.shape
  have hb36 := below_two HB35.out hb6 HB35.out.size
  have hpx := (hb36.block w2.heap.size hl2).trans HPX.out
  have q0 : w6.cell? ⟨w2.heap.size, 0, Option.none⟩ = some (.slice D1 p.ins.length d1) := by simp [World.cell?, hpx]
  have q1 : w6.cell? ⟨w2.heap.size, 1, Option.none⟩ = some (.slice D2 p.rls.length d2) := by simp [World.cell?, hpx]
  have q2 : w6.cell? ⟨w2.heap.size, 2, Option.none⟩ = some (.slice D3 p.cells.length d3) := by simp [World.cell?, hpx]
  have q3 : w6.cell? ⟨w2.heap.size, 3, Option.none⟩ = some (.slice D4 p.code.length d4) := by simp [World.cell?, hpx]
  have hl6 : w2.heap.size < w6.heap.size := by have := hb36.size; omega
  have hdp := Depth_any (HPO.out.below hb36)
  rw [HVER.out] at hdp
  have HDP := Lib.hid (show Calls Tryd.prog 17 #[pgV p ⟨D1, d1, D2, d2, D3, d3, D4, d4⟩] w6 (RetIB m w6) from hdp)
  have HB6 := Lib.hid (below_two HB5.out hb6 HB5.out.size)
  have HR6 := Lib.hid (hown6.rw (S := fun b => b < w6.heap.size) rfl fun b _ h => h)
  have HR56 := Lib.hid (HR5.out.mono (w' := w6) (S' := fun b => b < w6.heap.size) ExV.mono (fun b q => Nat.lt_of_lt_of_le q hb6.size) (keepOn_below hb6 fun b q => q))
  have hlx : (xs.length : Int) ≤ 9223372036854775807 := by unfold maxLen at hm6; omega
  have dm : decide ((24 : Int) < m) = false := decide_eq_false (by omega)
  clear hpx hdp hown6 hb36 hb6 HRL HR5
  go_wp2_with fail
  refine HDP.out.mono ?_
  rintro e w7 ⟨rfl, hb7⟩
  have HB7 := Lib.hid (below_two HB6.out hb7 HB6.out.size)
  have HL7 := Lib.hid (HR56.out.mono (w' := w7) (S' := fun b => b < w7.heap.size) ExV.mono (fun b q => Nat.lt_of_lt_of_le q hb7.size) (keepOn_below hb7 fun b q => q))
  have HM7 := Lib.hid (HR6.out.mono (w' := w7) (S' := fun b => b < w7.heap.size) ExV.mono (fun b q => Nat.lt_of_lt_of_le q hb7.size) (keepOn_below hb7 fun b q => q))
  clear hb7 HDP HR56 HR6 q0 q1 q2 q3
  go_wp2
  go_loopg [82] (xs.length + 1) (fun g v wr => SnR w7 xs.length g v wr)
  case atStart => exact ⟨0, Nat.zero_le _, by omega, rfl, Below.refl _ _⟩
  case round =>
    obtain ⟨k, hk, hgk, rfl, hbel⟩ := hrel
    have HBW := Lib.hid (below_two HB7.out hbel HB7.out.size)
    by_cases hlt : k < xs.length
    case neg =>
      obtain rfl : k = xs.length := by omega
      clear hbel hlt
      go_wp2_with fail
      refine (HK.out _ HBW.out).mono ?_
      rintro e w9 ⟨rfl, hb9⟩
      have HB9 := Lib.hid (below_two HBW.out hb9 HBW.out.size)
      clear hb9
      go_wp2
      go_ret
      exact ⟨rfl, HB9.out⟩
    obtain ⟨b, o, op2, n2, nm2, A2, cc2, ys, hA, hSb, hky, hc2, hm2, hp2, hr2, hxb⟩ := exAt (HL7.out.mono ExV.mono (fun b q => q) (keepOn_below hbel fun b q => q)) hlt
    obtain ⟨b', o', op3, n3, nm3, A3, c3, zs, hA', hSb', hkz, hc3, hm3, hp3, hr3, hxc⟩ := exAt (HM7.out.mono ExV.mono (fun b q => q) (keepOn_below hbel fun b q => q)) hlt
    rw [hky] at hkz
    injection hkz with hkz
    injection hkz with t1 t2 t3 t4
    subst t1
    subst t2
    subst t3
    subst t4
    subst hA
    subst hA'
    obtain ⟨y0, y1, y2, y3⟩ := hxb
    obtain ⟨u0, u1, u2, u3⟩ := hxc
    have hsz := hbel.size
    have hbk : b < wr.heap.size := Nat.lt_of_lt_of_le hSb hsz
    have hbk' : b' < wr.heap.size := Nat.lt_of_lt_of_le hSb' hsz
    have hX : XI wr.drew op2 n2 nm2 A2 cc2 ys := ⟨hc2, hm2, hp2, hr2.mono ExV.mono (fun b q => (Nat.lt_of_lt_of_le q hsz : b < wr.heap.size)) (keepOn_below (below_drew (Below.refl wr.heap.size wr)) fun b q => Nat.lt_of_lt_of_le q hsz)⟩
    have hY : XI wr.drew op2 n2 nm2 A3 c3 ys := ⟨hc3, hm3, hp2, hr3.mono ExV.mono (fun b q => (Nat.lt_of_lt_of_le q hsz : b < wr.heap.size)) (keepOn_below (below_drew (Below.refl wr.heap.size wr)) fun b q => Nat.lt_of_lt_of_le q hsz)⟩
    have HC1 := Lib.hid (same_in hX hY)
    have HBB := Lib.hid hbel
    have i1 : (k : Int) < (xs.length : Int) := by omega
    unfold maxLen at hm2 hm3
    clear hX hY hr2 hr3 hky hp2 hp3 hbel hSb hSb'
    go_upto_region 14 with fail
    go_region_held3 (fun w' => w'.cell? ⟨b, o + k * 4, Option.none⟩ = some (.int .i64 op2) ∧ w'.cell? ⟨b, o + k * 4 + 1, Option.none⟩ = some (.int .i64 n2) ∧ w'.cell? ⟨b, o + k * 4 + 2, Option.none⟩ = some (.string ⟨nm2.toArray⟩) ∧ w'.cell? ⟨b, o + k * 4 + 3, Option.none⟩ = some (.slice A2 ys.length cc2) ∧ w'.cell? ⟨b', o' + k * 4, Option.none⟩ = some (.int .i64 op2) ∧ w'.cell? ⟨b', o' + k * 4 + 1, Option.none⟩ = some (.int .i64 n2) ∧ w'.cell? ⟨b', o' + k * 4 + 2, Option.none⟩ = some (.string ⟨nm2.toArray⟩) ∧ w'.cell? ⟨b', o' + k * 4 + 3, Option.none⟩ = some (.slice A3 ys.length c3))
      (first | go_keep | exact s5)
      (first
       | ((go_at_call 18; refine HC1.out.mono ?_; rintro e w5 ⟨rfl, hb5⟩; have hb5' := below_same (a := wr) (B' := wr.heap.size) hb5 rfl rfl rfl rfl (Nat.le_refl _); have s5 := keep8 hb5' y0 y1 y2 y3 u0 u1 u2 u3)))
    go_wp2
    go_roundg (xs.length - k)
    case measure => omega
    case rel => exact ⟨k + 1, by omega, by omega, by go_num, HBB.out.trans (hb5'.mono (by omega))⟩
end Go.Proofs.YtcikenlflcofbaaDoor
