/-
  ScanRuns: Run returns the values of successive steps.
-/
import Derived.Test.YtcikenlflcofbaaDoorStq
import Derived.Test.YtcikenlflcofbaaDoorFew
import Derived.Test.YtcikenlflcofbaaDoorK28
import Derived.Test.YtcikenlflcofbaaDoorOpI
import Derived.Deep.RegionHeld3
import Derived.StillTailTactics
import Derived.BigQuiet
namespace Go.Proofs.YtcikenlflcofbaaDoor
open Go.RowKit

/-- A quiet walk in one world is a still one. -/
theorem still_of_quiet {P : Program} {ops : Array Oper} {W : World} {Q : Act → Prop} : ∀ {l : List Oper} {a : Act}, wpQuiet P ops (fun x => x = W) Q l a → wpStill P ops W Q l a
  | [], _, h => h
  | o :: rest, a, h => by
    have ih := fun a => still_of_quiet (P := P) (ops := ops) (W := W) (Q := Q) (l := rest) (a := a)
    unfold wpQuiet at h
    unfold wpStill
    split at h
    · rename_i hw
      rw [if_pos hw]
      obtain ⟨v, h1, h2⟩ := h
      have h3 := h1 W rfl
      unfold Oper.quietAt at h3
      unfold Oper.still
      generalize (execOp a.eval o).run P W = r at *
      cases r with
      | ok n w' =>
        cases n <;> simp only [Oper.quietUpon] at h3 <;> simp only [Oper.stillUpon]
        case value u => exact ⟨h3.1, by rw [h3.2]; exact ih _ h2⟩
        case skip => exact ⟨h3.1, by have := h3.2; subst this; exact ih _ h2⟩
        case enter f args => exact ⟨h3.1, v, h3.2, ih _ h2⟩
      | halt x w' => simp only [Oper.quietUpon] at h3
    · rename_i hw
      rw [if_neg hw]
      exact ih _ h
/-- What Compile returns verifies. -/
theorem cmp_ver {rs : List Rl} {ins : List Sg} {p : Pg} {a : Int} (h : cmpP rs ins = (p, a, 0)) : (verP p).2.2 = 0 := by
  unfold cmpP at h
  by_cases hc : (compP rs ins).2.2 = 0
  · rw [if_pos hc] at h
    injection h with h1 h2
    subst h1
    obtain ⟨env, ho, -⟩ := cmp_ok hc
    rw [cmp_verifies ho fun t ht => parse_valid ht]
  · rw [if_neg hc] at h
    injection h with h1 h2
    exact absurd (by rw [h2]) hc
theorem runL_len {p : Pg} : ∀ {xs : List (List Int)} {m : Mm} {l L : List (List Int)}, runL p xs m l = (L, 0) → L.length = l.length + xs.length ∧ ∀ (i : Nat) (x : List Int), l[i]? = some x → L[i]? = some x
  | [], m, l, L, h => by
    have h' : (l, (0 : Int)) = (L, 0) := h
    injection h' with h1
    subst h1
    exact ⟨rfl, fun i x hx => hx⟩
  | x :: xs, m, l, L, h => by
    rw [runL_cons] at h
    split at h
    · injection h with _ h2; exact absurd h2 (by decide)
    · obtain ⟨h1, h2⟩ := runL_len h
      refine ⟨by rw [h1, List.length_append, List.length_singleton, List.length_cons]; omega, fun i y hy => h2 i y ?_⟩
      rw [List.getElem?_append_left (List.getElem?_eq_some_iff.1 hy).1]
      exact hy
theorem runL_err {p : Pg} : ∀ {xs : List (List Int)} {m : Mm} {l L : List (List Int)} {f : Int}, runL p xs m l = (L, f) → f = 0 ∨ f = 1
  | [], m, l, L, f, h => by
    have h' : (l, (0 : Int)) = (L, f) := h
    injection h' with _ h2
    exact .inl h2.symm
  | x :: xs, m, l, L, f, h => by
    rw [runL_cons] at h
    split at h
    · injection h with _ h2; exact .inr h2.symm
    · exact runL_err h
theorem scanS_ok {p : Pg} {m : Mm} {x : List Int} (hv : (verP p).2.2 = 0) (hm : MemOk p m) : scanS p m x = if readB p x = false then (mmNil, 1) else (scanP p m x, 0) := by
  have e : scanS p m x = if (verP p).2.2 ≠ 0 ∨ readB p x = false then (mmNil, 1) else if fitsB p m = false then (mmNil, 20) else (scanP p m x, 0) := rfl
  rw [e, fits_iff.2 hm]
  cases readB p x <;> simp [hv]
def RnL (W : World) (gm : Nat) (p : Pg) (xs : List (List Int)) (R : List (List Int) × Int) (g : Nat) (v50 : Value) (wr : World) : Prop :=
  ∃ (k : Nat) (m : Mm) (ml : Ml) (l : List (List Int)), k ≤ xs.length ∧ xs.length - k < g ∧ v50 = .int .i64 (k : Int) ∧ runL p (xs.drop k) m l = R ∧ l.length = k ∧ MemOk p m ∧ MmI wr (fun b => b < wr.heap.size ∧ b ≠ gm) m ml ∧
    wr.heap[gm]? = some (.cells (mmC m ml) 65 (0, 0)) ∧ KB (fun b => b = gm) W wr

/-- Behind a step: its result lies in the block of the memory. -/
def RnC (wr : World) (gm : Nat) (m : Mm) (gq : Int) (v13 : Value) (wc : World) : Prop :=
  ∃ ml : Ml, v13 = .int .i64 gq ∧ wc.heap[gm]? = some (.cells (mmC m ml) 65 (0, 0)) ∧ MmI wc (fun b => b < wc.heap.size ∧ b ≠ gm) m ml ∧ KB (fun b => b = gm) wr wc
theorem rn_c {wr w7 : World} {gm : Nat} {m : Mm} {gq : Int} {N1 N2 : Option Addr} {n1 n2 : Nat} {a b : Value} (hb : Below wr.heap.size wr w7) (hm : MmI w7 (fun b => wr.heap.size ≤ b ∧ b < w7.heap.size) m ⟨N1, n1, N2, n2⟩) (hl : gm < wr.heap.size) (hg : w7.heap[gm]? = some (.cells #[a, b] 65 (0, 0))) :
    RnC wr gm m gq (.int .i64 gq) ((w7.setCell ⟨gm, 0, Option.none⟩ (.slice N1 m.vals.length n1)).setCell ⟨gm, 1, Option.none⟩ (.slice N2 m.cells.length n2)) := by
  have hk := two_set_kb w7 gm (.slice N1 m.vals.length n1) (.slice N2 m.cells.length n2)
  have hs := hk.size
  refine ⟨⟨N1, n1, N2, n2⟩, rfl, (two_set_at hg _ _).2.2, hm.mono (fun b q => ⟨by omega, by omega⟩) (fun b q => hk.block b q.2 (by omega)), (KB.of_below hb).trans hk⟩

set_option maxRecDepth 100000 in
set_option maxHeartbeats 8000000 in
theorem rns_any (A0 : Option Addr) (c0 : Nat) (rs : List Rl) (A1 : Option Addr) (c1 : Nat) (ins : List Sg) (A2 : Option Addr) (c2 : Nat) (xs : List (List Int)) (w : World) (hw : Lw w) (hc0 : rs.length ≤ c0) (hm0 : c0 ≤ maxLen) (hr0 : Rw RlC 2 w (Old w) A0 rs.length rs)
    (hc1 : ins.length ≤ c1) (hm1 : c1 ≤ maxLen) (hr1 : Rw SgC 2 w (Old w) A1 ins.length ins) (hc2 : xs.length ≤ c2) (hm2 : c2 ≤ maxLen) (hr2 : Rw LsC 1 w (Old w) A2 xs.length xs) :
    Calls Tryd.prog 10 #[.slice A0 rs.length c0, .slice A1 ins.length c1, .slice A2 xs.length c2] w (RetB true w) := by
  have HF := Lib.hid (few28_any A0 c0 rs A1 c1 ins w hr0)
  have HK := Lib.hid (fun W (h : Below w.heap.size w W) => known28_any W (hw.below h))
  have HW := Lib.hid hw
  have HCM := Lib.hid (fun W (h : Below w.heap.size w W) => compile_any A0 c0 rs A1 c1 ins W (hw.below h) hc0 hm0 (hr0.mono RlC.mono (fun b q => Nat.lt_of_lt_of_le q h.size) (keepOn_below h fun b q => q)) hc1 hm1 (hr1.mono SgC.mono (fun b q => Nat.lt_of_lt_of_le q h.size) (keepOn_below h fun b q => q)))
  have HXR := Lib.hid hr2
  have hlm : (xs.length : Int) ≤ 9223372036854775807 := by unfold maxLen at hm2; omega
  obtain ⟨fb, hfb⟩ : ∃ fb, few28P rs ins = fb := ⟨_, rfl⟩
  rw [hfb] at HF
  clear hw hr0 hr1 hr2 hc0 hm0 hc1 hm1 hc2 hm2 hfb
  cases fb with
  | false =>
    go_enter Tryd.func10, Tryd.ntmps10
    go_wp2_with fail
    refine HF.out.mono ?_
    rintro e w1 ⟨rfl, hb1⟩
    have HB1 := Lib.hid hb1
    clear hb1
    go_wp2_with fail
    refine (HK.out _ HB1.out).mono ?_
    rintro e w2 ⟨rfl, hb2⟩
    have HB2 := Lib.hid (below_two HB1.out hb2 HB1.out.size)
    clear hb2
    go_wp2
    go_ret
    exact ⟨rfl, HB2.out⟩
  | true =>
  by_cases h12 : 12 < xs.length
  · have hd : decide ((12 : Int) < (xs.length : Int)) = true := decide_eq_true (by omega)
    clear h12
    go_enter Tryd.func10, Tryd.ntmps10
    go_wp2_with fail
    refine HF.out.mono ?_
    rintro e w1 ⟨rfl, hb1⟩
    have HB1 := Lib.hid hb1
    clear hb1
    go_wp2_with fail
    refine (HK.out _ HB1.out).mono ?_
    rintro e w2 ⟨rfl, hb2⟩
    have HB2 := Lib.hid (below_two HB1.out hb2 HB1.out.size)
    clear hb2
    go_wp2
    go_ret
    exact ⟨rfl, HB2.out⟩
  have hd : decide ((12 : Int) < (xs.length : Int)) = false := decide_eq_false (by omega)
  obtain ⟨p, pa, pe, hcp⟩ : ∃ p a e, cmpP rs ins = (p, a, e) := ⟨_, _, _, rfl⟩
  have HCP := Lib.hid hcp
  clear hcp
  go_enter Tryd.func10, Tryd.ntmps10
  go_wp2_with fail
  refine HF.out.mono ?_
  rintro e w1 ⟨rfl, hb1⟩
  have HB1 := Lib.hid hb1
  clear hb1
  go_wp2_with fail
  refine (HCM.out _ HB1.out).mono ?_
  intro e w2 hret
  obtain ⟨D1, d1, D2, d2, D3, d3, D4, d4, rfl, hpg, hb2⟩ := hret.of HCP.out
  have hbx := box_below w2 (Obj.cells (pgC p ⟨D1, d1, D2, d2, D3, d3, D4, d4⟩) 32)
  have HPX := Lib.hid (heap_alloc_new w2 (Obj.cells (pgC p ⟨D1, d1, D2, d2, D3, d3, D4, d4⟩) 32))
  have hs2 := World.size_alloc w2 (Obj.cells (pgC p ⟨D1, d1, D2, d2, D3, d3, D4, d4⟩) 32)
  have hb3 := below_two (below_two HB1.out hb2 HB1.out.size) hbx (below_two HB1.out hb2 HB1.out.size).size
  have HB3 := Lib.hid hb3
  have HPG := Lib.hid (hpg.mono (S' := fun b => b < w2.heap.size) (fun b q => q.2) (keepOn_below hbx fun b q => q.2))
  have HS2 := Lib.hid hs2
  clear hret hpg hb2 hbx hs2 hb3 HCM
  go_upto_region 4 with fail
  generalize w2.alloc (Obj.cells (pgC p ⟨D1, d1, D2, d2, D3, d3, D4, d4⟩) 32) = W3 at *
  by_cases hpe : pe = 0
  case neg =>
    have hpb : (pe != 0) = true := by simpa using hpe
    clear hpe
    go_wp2_with fail
    refine (HK.out _ HB3.out).mono ?_
    rintro e w4 ⟨rfl, hb4⟩
    have HB4 := Lib.hid (below_two HB3.out hb4 HB3.out.size)
    clear hb4
    go_wp2
    go_ret
    exact ⟨rfl, HB4.out⟩
  subst hpe
  have HV := Lib.hid (cmp_ver HCP.out)
  have hs2 := HS2.out
  have hpx := HPX.out
  have q0 : W3.cell? ⟨w2.heap.size, 0, Option.none⟩ = some (.slice D1 p.ins.length d1) := by simp [World.cell?, hpx]
  have q1 : W3.cell? ⟨w2.heap.size, 1, Option.none⟩ = some (.slice D2 p.rls.length d2) := by simp [World.cell?, hpx]
  have q2 : W3.cell? ⟨w2.heap.size, 2, Option.none⟩ = some (.slice D3 p.cells.length d3) := by simp [World.cell?, hpx]
  have q3 : W3.cell? ⟨w2.heap.size, 3, Option.none⟩ = some (.slice D4 p.code.length d4) := by simp [World.cell?, hpx]
  have hl2 : w2.heap.size < W3.heap.size := by omega
  have HPO := Lib.hid (HPG.out.mono (S' := Old W3) (fun b q => Nat.lt_trans q hl2) (KeepOn.refl _ _))
  have hb3 := HB3.out
  have HRU := Lib.hid (Run_any (c := c2) HPO.out (HXR.out.mono LsC.mono (S' := Old W3) (fun b q => Nat.lt_of_lt_of_le q hb3.size) (keepOn_below hb3 fun b q => q)) (by omega))
  obtain ⟨L, f, hLf⟩ : ∃ L f, runS p xs = (L, f) := ⟨_, _, rfl⟩
  unfold RetRun at HRU
  rw [hLf] at HRU
  have HRL := Lib.hid (show runL p xs (newP p) [] = (L, f) by rw [← hLf]; unfold runS; rw [if_neg (by rw [HV.out]; decide)])
  clear hpx hs2 hb3 hLf
  go_wp2_with fail
  refine HRU.out.mono ?_
  rintro e w4 ⟨A5, c5, rfl, hc5, hm5, hr5, hb5⟩
  dsimp only at hc5 hr5 ⊢
  have hn4 := New_any (w := w4) (HPO.out.below hb5)
  have HN4 := Lib.hid hn4
  have hpx := (hb5.block w2.heap.size hl2).trans HPX.out
  clear q0 q1 q2 q3
  have q0 : w4.cell? ⟨w2.heap.size, 0, Option.none⟩ = some (.slice D1 p.ins.length d1) := by simp [World.cell?, hpx]
  have q1 : w4.cell? ⟨w2.heap.size, 1, Option.none⟩ = some (.slice D2 p.rls.length d2) := by simp [World.cell?, hpx]
  have q2 : w4.cell? ⟨w2.heap.size, 2, Option.none⟩ = some (.slice D3 p.cells.length d3) := by simp [World.cell?, hpx]
  have q3 : w4.cell? ⟨w2.heap.size, 3, Option.none⟩ = some (.slice D4 p.code.length d4) := by simp [World.cell?, hpx]
  have hl4 : w2.heap.size < w4.heap.size := by have := hb5.size; omega
  have HB5 := Lib.hid hb5
  have HR5 := Lib.hid hr5
  have HC5 := Lib.hid (And.intro hc5 hm5)
  clear hn4 hpx hb5 hr5 hc5 hm5 HRU
  go_wp2_with fail
  refine HN4.out.mono ?_
  rintro e w5 ⟨hb6, ⟨hv, rfl⟩ | ⟨hv, gv, gc, rfl, hgv, hgc, hmw⟩⟩
  · exact absurd HV.out hv
  have hb7 := below_two HB5.out hb6 HB5.out.size
  have hbx := box_below w5 (Obj.cells #[.slice (some ⟨gv, 0, Option.none⟩) p.rls.length p.rls.length, .slice (some ⟨gc, 0, Option.none⟩) p.cells.length p.cells.length] 65)
  have hnx := heap_alloc_new w5 (Obj.cells #[.slice (some ⟨gv, 0, Option.none⟩) p.rls.length p.rls.length, .slice (some ⟨gc, 0, Option.none⟩) p.cells.length p.cells.length] 65)
  have hs5 := World.size_alloc w5 (Obj.cells #[.slice (some ⟨gv, 0, Option.none⟩) p.rls.length p.rls.length, .slice (some ⟨gc, 0, Option.none⟩) p.cells.length p.cells.length] 65)
  have HB8 := Lib.hid (below_two HB3.out (below_two hb7 hbx hb7.size) HB3.out.size)
  have hb68 := below_two hb6 hbx hb6.size
  have HB68 := Lib.hid hb68
  have hmmi : MmI w5 (fun b => b < w5.heap.size) (newP p) ⟨some ⟨gv, 0, Option.none⟩, p.rls.length, some ⟨gc, 0, Option.none⟩, p.cells.length⟩ := hmw.mmI fun b _ h2 => h2
  have HMM := Lib.hid (hmmi.mono (w' := w5.alloc (Obj.cells #[.slice (some ⟨gv, 0, Option.none⟩) p.rls.length p.rls.length, .slice (some ⟨gc, 0, Option.none⟩) p.cells.length p.cells.length] 65)) (S' := fun b => b < (w5.alloc (Obj.cells #[.slice (some ⟨gv, 0, Option.none⟩) p.rls.length p.rls.length, .slice (some ⟨gc, 0, Option.none⟩) p.cells.length p.cells.length] 65)).heap.size ∧ b ≠ w5.heap.size) (fun b q => by have q' : b < w5.heap.size := q; rw [hs5]; omega) (keepOn_below hbx fun b q => q))
  have HGM : Hid ((w5.alloc (Obj.cells #[.slice (some ⟨gv, 0, Option.none⟩) p.rls.length p.rls.length, .slice (some ⟨gc, 0, Option.none⟩) p.cells.length p.cells.length] 65)).heap[w5.heap.size]? = some (.cells (mmC (newP p) ⟨some ⟨gv, 0, Option.none⟩, p.rls.length, some ⟨gc, 0, Option.none⟩, p.cells.length⟩) 65 (0, 0))) := Lib.hid (by
    show _ = some (Obj.cells #[.slice (some ⟨gv, 0, Option.none⟩) (newP p).vals.length p.rls.length, .slice (some ⟨gc, 0, Option.none⟩) (newP p).cells.length p.cells.length] 65 (0, 0))
    rw [hmw.va.len, hmw.ce.len]
    exact hnx)
  have HS5 := Lib.hid hs5
  have hl56 := hb6.size
  clear q0 q1 q2 q3 hb6 hmw hb7 hbx hnx hs5 hb68 hmmi hgv hgc hv HN4
  go_upto_region 10 with fail
  generalize w5.alloc (Obj.cells #[.slice (some ⟨gv, 0, Option.none⟩) p.rls.length p.rls.length, .slice (some ⟨gc, 0, Option.none⟩) p.cells.length p.cells.length] 65) = W6 at *
  have HMO := Lib.hid (new_ok HV.out)
  have hs6 := HS5.out
  have hl45 := HB5.out.size
  have hl68 := HB68.out.size
  have hgp : w2.heap.size < w5.heap.size := by omega
  have HR6 := Lib.hid (HR5.out.mono LsC.mono (S' := fun b => b < w4.heap.size) (fun b q => q.2) (KeepOn.refl _ _))
  have HX6 := Lib.hid (HXR.out.mono LsC.mono (S' := fun b => b < w.heap.size) (fun b q => q) (KeepOn.refl _ _))
  have hww : w.heap.size ≤ w4.heap.size := by have := HB3.out.size; omega
  clear hs6 hl68 HR5 HXR
  have HB36 := Lib.hid (below_two HB5.out HB68.out HB5.out.size)
  go_wp2
  go_loopg [50] (xs.length + 1) (fun g v50 wr => RnL W6 w5.heap.size p xs (L, f) g v50 wr)
  case atStart => exact ⟨0, newP p, _, [], Nat.zero_le _, by omega, rfl, HRL.out, rfl, HMO.out, HMM.out, HGM.out, KB.refl _ _⟩
  case round =>
    clear HRL HMO HMM HGM
    obtain ⟨k, m, ⟨M1, m1, M2, m2⟩, l, hk, hgk, rfl, hru, hll, hmo, hmm, hgm, hkb⟩ := hrel
    have hsr := hkb.size
    have hs6 := HS5.out
    have HBW := Lib.hid (HB8.out.trans (hkb.below (B := w.heap.size) (by omega) (fun b q => by omega)))
    by_cases hlt : k < xs.length
    case neg =>
      obtain rfl : k = xs.length := by omega
      rw [List.drop_length] at hru
      have hru' : (l, (0 : Int)) = (L, f) := hru
      injection hru' with e1 e2
      subst e2
      clear hru hll hmo hmm hgm hkb e1 hlt hs6
      go_wp2_with fail
      refine (HK.out _ HBW.out).mono ?_
      rintro e w8 ⟨rfl, hb8⟩
      have HB9 := Lib.hid (below_two HBW.out hb8 HBW.out.size)
      clear hb8
      go_wp2
      go_ret
      exact ⟨rfl, HB9.out⟩
    have hko : KeepOn (fun b => b < w.heap.size) w wr := fun b hb => by
      have hb' : b < w.heap.size := hb
      exact (hkb.block b (by omega) (by omega)).trans (HB8.out.block b hb')
    obtain ⟨b, o, x, Ax, cx, hA, hSb, hx, hxc, hxm, hxr, y0⟩ := lsAt (HX6.out.mono LsC.mono (fun _ q => q) hko) hlt
    subst hA
    have hget : xs[k] = x := by
      rw [List.getElem?_eq_getElem hlt] at hx
      injection hx
    rw [List.drop_eq_getElem_cons hlt, hget, runL_cons] at hru
    have hk36 : KeepOn (fun b => b < w2.heap.size) W3 wr := fun b hb => by
      have hb' : b < w2.heap.size := hb
      exact (hkb.block b (by omega) (by omega)).trans (HB36.out.block b (by omega))
    have hpw : PgI wr (fun b => b < w2.heap.size) p ⟨D1, d1, D2, d2, D3, d3, D4, d4⟩ := HPG.out.mono (fun _ q => q) hk36
    have hpx := (hkb.block w2.heap.size (by omega) (by omega)).trans ((HB36.out.block _ hl2).trans HPX.out)
    have q0 : wr.cell? ⟨w2.heap.size, 0, Option.none⟩ = some (.slice D1 p.ins.length d1) := by simp [World.cell?, hpx]
    have q1 : wr.cell? ⟨w2.heap.size, 1, Option.none⟩ = some (.slice D2 p.rls.length d2) := by simp [World.cell?, hpx]
    have q2 : wr.cell? ⟨w2.heap.size, 2, Option.none⟩ = some (.slice D3 p.cells.length d3) := by simp [World.cell?, hpx]
    have q3 : wr.cell? ⟨w2.heap.size, 3, Option.none⟩ = some (.slice D4 p.code.length d4) := by simp [World.cell?, hpx]
    have g0 : wr.cell? ⟨w5.heap.size, 0, Option.none⟩ = some (.slice M1 m.vals.length m1) := by simp [World.cell?, hgm]
    have g1 : wr.cell? ⟨w5.heap.size, 1, Option.none⟩ = some (.slice M2 m.cells.length m2) := by simp [World.cell?, hgm]
    have hlg : w5.heap.size < wr.heap.size := (Array.getElem?_eq_some_iff.1 hgm).1
    have hlp : w2.heap.size < wr.heap.size := by omega
    have hsc := scanS_ok (x := x) HV.out hmo
    have hst : ∀ W : World, W.heap = wr.heap → Calls Tryd.prog 24 #[pgV p ⟨D1, d1, D2, d2, D3, d3, D4, d4⟩, mmV m ⟨M1, m1, M2, m2⟩, .slice Ax x.length cx] W (RetStp p m x W) := fun W hW =>
      Step_any (hpw.mono (S' := Old W) (fun b q => by have q' : b < w2.heap.size := q; show b < W.heap.size; rw [hW]; omega) (fun b _ => by rw [hW])) (hmm.mono (S' := Old W) (fun b q => by show b < W.heap.size; rw [hW]; exact q.1) (fun b _ => by rw [hW])) (hxr.mono IaC.mono (S' := Old W) (fun b q => by have q' : b < w.heap.size := q; show b < W.heap.size; rw [hW]; omega) (fun b _ => by rw [hW]))
    have hgx : ∀ w7 : World, Below wr.heap.size wr w7 → w7.heap[w5.heap.size]? = some (.cells (mmC m ⟨M1, m1, M2, m2⟩) 65 (0, 0)) := fun w7 h => (h.block _ hlg).trans hgm
    have hgy : ∀ w7 : World, Below wr.heap.size wr w7 → w7.cell? ⟨w5.heap.size, 0, Option.none⟩ = some (.slice M1 m.vals.length m1) ∧ w7.cell? ⟨w5.heap.size, 1, Option.none⟩ = some (.slice M2 m.cells.length m2) ∧ w7.frozen? ⟨w5.heap.size, 0, Option.none⟩ = false ∧ w7.frozen? ⟨w5.heap.size, 1, Option.none⟩ = false ∧ w5.heap.size < w7.heap.size := fun w7 h => by
      have e := hgx w7 h
      exact ⟨by simp [World.cell?, e], by simp [World.cell?, e], Lib.frozen_of_heap e 0, Lib.frozen_of_heap e 1, (Array.getElem?_eq_some_iff.1 e).1⟩
    have HGX := Lib.hid hgx
    have HGY := Lib.hid hgy
    have HKB := Lib.hid hkb
    have HPX2 := Lib.hid hpx
    have HMO2 := Lib.hid hmo
    have HLL := Lib.hid hll
    have hbk : b < wr.heap.size := by have q' : b < w.heap.size := hSb; omega
    have hki : (k : Int) < (xs.length : Int) := by omega
    unfold RetStp at hst
    obtain ⟨m', gq, hmg⟩ : ∃ a b, scanS p m x = (a, b) := ⟨_, _, rfl⟩
    rw [hmg] at hsc hst
    dsimp only at hst
    have HST := Lib.hid hst
    have HSC := Lib.hid hsc
    have HRU := Lib.hid hru
    clear hsc hmg hru hmo hmm hgm hkb hko hx hxc hxm hxr hget hk36 hpw hpx hst hgx hgy hll hSb hs6
    go_upto_region 13 with fail
    go_cut [13] (fun v13 wc => RnC wr w5.heap.size m' gq v13 wc)
    case first =>
      go_region_law ((go_simp; go_at_call 24; refine (HST.out _ (by rfl)).mono ?_; rintro e7 w7 ⟨⟨N1, n1, N2, n2⟩, rfl, hm7, hb7⟩; obtain ⟨v0, v1, u0, u1, hl7⟩ := HGY.out w7 (below_two (below_drew (Below.refl wr.heap.size wr)) hb7 (Nat.le_refl _)); have HB7 := Lib.hid (below_two (below_drew (Below.refl wr.heap.size wr)) hb7 (Nat.le_refl _)); have HM7 := Lib.hid hm7; clear hb7 hm7))
      all_goals
        go_wp2
        go_meet
        exact rn_c HB7.out HM7.out hlg (HGX.out _ HB7.out)
    case rest =>
      rename World => wc
      obtain ⟨⟨N1, n1, N2, n2⟩, rfl, hgm, hmm, hkc⟩ := hcut
      have hsc2 := hkc.size
      have hkw := HKB.out.trans hkc
      have hs6 := HS5.out
      have hsw := hkw.size
      have HBWc := Lib.hid (HB8.out.trans (hkw.below (B := w.heap.size) (by omega) (fun b q => by omega)))
      have HKW := Lib.hid hkw
      have HGMc := Lib.hid hgm
      have HMMc := Lib.hid hmm
      have hru := HRU.out
      have hsc := HSC.out
      obtain ⟨rb, hrb⟩ : ∃ rb, readB p x = rb := ⟨_, rfl⟩
      rw [hrb] at hsc hru
      cases rb with
      | false =>
        rw [if_pos rfl] at hsc hru
        injection hru with e1 e2
        injection hsc with e3 e4
        subst e1
        subst e2
        subst e4
        clear hrb hgm hmm hkc hkw hs6 HSC HRU e3 q0 q1 q2 q3 g0 g1 y0
        go_wp2_with fail
        refine (HK.out _ HBWc.out).mono ?_
        rintro e w8 ⟨rfl, hb8⟩
        have HB9 := Lib.hid (below_two HBWc.out hb8 HBWc.out.size)
        clear hb8
        go_wp2
        go_ret
        exact ⟨rfl, HB9.out⟩
      | true =>
        rw [if_neg (by decide)] at hsc hru
        injection hsc with e3 e4
        subst e4
        rw [← e3] at hru
        have hmo' : MemOk p m' := by rw [e3]; exact scan_ok HV.out (read_inp hrb) HMO2.out
        have hk36 : KeepOn (fun b => b < w2.heap.size) W3 wc := fun b hb => by
          have hb' : b < w2.heap.size := hb
          exact (hkw.block b (by omega) (by omega)).trans (HB36.out.block b (by omega))
        have hpw : PgI wc (fun b => b < w2.heap.size) p ⟨D1, d1, D2, d2, D3, d3, D4, d4⟩ := HPG.out.mono (fun _ q => q) hk36
        have hpx := (hkw.block w2.heap.size (by omega) (by omega)).trans ((HB36.out.block _ hl2).trans HPX.out)
        have hlgc : w5.heap.size < wc.heap.size := by omega
        have hlpc : w2.heap.size < wc.heap.size := by omega
        have hfi : ∀ W : World, Below wc.heap.size wc W → Calls Tryd.prog 27 #[pgV p ⟨D1, d1, D2, d2, D3, d3, D4, d4⟩, mmV m' ⟨N1, n1, N2, n2⟩] W (RetB true W) := fun W hb => by
          have := Fits_any (w := W) ((hpw.mono (S' := Old wc) (fun b q => by have q' : b < w2.heap.size := q; show b < wc.heap.size; omega) (KeepOn.refl _ _)).below hb) ((hmm.mono (S' := Old wc) (fun b q => q.1) (KeepOn.refl _ _)).below hb)
          rw [fits_iff.2 hmo', HV.out] at this
          exact this
        have hgy : ∀ W : World, Below wc.heap.size wc W → W.cell? ⟨w2.heap.size, 0, Option.none⟩ = some (.slice D1 p.ins.length d1) ∧ W.cell? ⟨w2.heap.size, 1, Option.none⟩ = some (.slice D2 p.rls.length d2) ∧ W.cell? ⟨w2.heap.size, 2, Option.none⟩ = some (.slice D3 p.cells.length d3) ∧ W.cell? ⟨w2.heap.size, 3, Option.none⟩ = some (.slice D4 p.code.length d4) ∧
            W.cell? ⟨w5.heap.size, 0, Option.none⟩ = some (.slice N1 m'.vals.length n1) ∧ W.cell? ⟨w5.heap.size, 1, Option.none⟩ = some (.slice N2 m'.cells.length n2) ∧ w2.heap.size < W.heap.size ∧ w5.heap.size < W.heap.size := fun W h => by
          have e1 := (h.block _ hlpc).trans hpx
          have e2 := (h.block _ hlgc).trans hgm
          have := h.size
          refine ⟨?_, ?_, ?_, ?_, ?_, ?_, by omega, by omega⟩ <;> simp [World.cell?, e1, e2]
        have HFI := Lib.hid hfi
        have HGY2 := Lib.hid hgy
        have HRU2 := Lib.hid hru
        have HMO3 := Lib.hid hmo'
        clear q0 q1 q2 q3 g0 g1 y0
        obtain ⟨q0, q1, q2, q3, g0, g1, -, -⟩ := hgy wc (Below.refl _ _)
        have HNX : Hid (∀ (W : World) (v : Value), Below wc.heap.size wc W → v = .int .i64 ((k + 1 : Nat) : Int) → RnL W6 w5.heap.size p xs (L, f) (xs.length - k) v W) := Lib.hid fun W v hb hv =>
          ⟨k + 1, m', ⟨N1, n1, N2, n2⟩, l ++ [m'.vals], by omega, by omega, hv, HRU2.out, by rw [List.length_append, HLL.out]; rfl, HMO3.out, HMMc.out.mono (fun b q => ⟨Nat.lt_of_lt_of_le q.1 hb.size, q.2⟩) (keepOn_below hb fun b q => q.1), (hb.block _ hlgc).trans HGMc.out, HKW.out.trans (KB.of_below hb)⟩
        rcases runL_err hru with rfl | rfl
        · obtain ⟨hLl, hLg⟩ := runL_len hru
          have hLl2 : L.length = xs.length := by rw [hLl, List.length_append, List.length_singleton, List.length_drop]; have := HLL.out; omega
          have hLk := hLg k m'.vals (by rw [List.getElem?_append_right (by rw [HLL.out]; exact Nat.le_refl _), HLL.out, Nat.sub_self]; rfl)
          have hk4 : KeepOn (fun b => b < w4.heap.size) w4 wc := fun b hb => by
            have hb' : b < w4.heap.size := hb
            exact (hkw.block b (by omega) (by omega)).trans (HB68.out.block b hb')
          obtain ⟨b9, o9, x9, A9, c9, hA9, hS9, hx9, hx9c, hx9m, hx9r, y9⟩ := lsAt (HR6.out.mono LsC.mono (fun _ q => q) hk4) (show k < L.length by omega)
          rw [hLk] at hx9
          cases hx9
          subst hA9
          have hsm : ∀ W : World, W.heap = wc.heap → Calls Tryd.prog 23 #[.slice A9 m'.vals.length c9, .slice N1 m'.vals.length n1] W (RetB true W) := fun W hW => by
            have hk0 : KeepOn (Old wc) wc W := fun b _ => by rw [hW]
            have hS0 : ∀ b, Old wc b → Old W b := fun b q => by show b < W.heap.size; rw [hW]; exact q
            have h1 : Rw IaC 1 wc (Old wc) A9 m'.vals.length m'.vals := hx9r.mono IaC.mono (fun b q => by have q' : b < w4.heap.size := q; show b < wc.heap.size; omega) (KeepOn.refl _ _)
            have h2 : Rw IaC 1 wc (Old wc) N1 m'.vals.length m'.vals := HMMc.out.r1.mono IaC.mono (fun b q => q.1) (KeepOn.refl _ _)
            have := same28_any A9 N1 c9 n1 m'.vals m'.vals W (h1.mono IaC.mono hS0 hk0) (h2.mono IaC.mono hS0 hk0) (Nat.le_trans hx9c hx9m)
            rw [decide_eq_true rfl] at this
            exact this
          have HSM := Lib.hid hsm
          have hb9 : b9 < wc.heap.size := by have q' : b9 < w4.heap.size := hS9; omega
          have HY9 := Lib.hid (fun (W : World) (h : Below wc.heap.size wc W) => (h.cell (p := ⟨b9, o9 + k, Option.none⟩) hb9).trans y9)
          clear hru hrb hgm hmm hkc hkw hs6 HSC HRU e3 hmo' hk36 hpw hpx hfi hgy hLl hLg hLk hk4 hx9c hx9m hx9r hsm hS9
          have hne1 : ((L.length : Int) != (xs.length : Int)) = false := by rw [hLl2]; simp
          have hne2 : (L.length != xs.length) = false := by rw [hLl2]; simp
          have hki2 : (k : Int) < (L.length : Int) := by omega
          have HL2 := Lib.hid hLl2
          clear hLl2
          go_upto_region 16 with fail
          (go_simp)
          go_region_held3 (fun w' => w'.cell? ⟨w2.heap.size, 0, Option.none⟩ = some (.slice D1 p.ins.length d1) ∧ w'.cell? ⟨w2.heap.size, 1, Option.none⟩ = some (.slice D2 p.rls.length d2) ∧ w'.cell? ⟨w2.heap.size, 2, Option.none⟩ = some (.slice D3 p.cells.length d3) ∧ w'.cell? ⟨w2.heap.size, 3, Option.none⟩ = some (.slice D4 p.code.length d4) ∧ w'.cell? ⟨w5.heap.size, 0, Option.none⟩ = some (.slice N1 m'.vals.length n1) ∧ w'.cell? ⟨w5.heap.size, 1, Option.none⟩ = some (.slice N2 m'.cells.length n2) ∧ w'.cell? ⟨b9, o9 + k, Option.none⟩ = some (.slice A9 m'.vals.length c9)) (first | go_keep | exact ⟨s0, s1, s2, s3, t0, t1, t4⟩ | exact ⟨r0, r1, r2, r3, r4, r5, r6⟩)
            (first
             | ((go_at_call 23; refine (HSM.out _ (by rfl)).mono ?_; rintro e8 w8 ⟨rfl, hb8⟩; have HB88 := Lib.hid (below_two (below_drew (Below.refl wc.heap.size wc)) hb8 (Nat.le_refl _)); obtain ⟨s0, s1, s2, s3, t0, t1, t2, t3⟩ := HGY2.out w8 HB88.out; have t4 := HY9.out w8 HB88.out; clear hb8))
             | ((go_at_call 27; refine (HFI.out _ HB88.out).mono ?_; rintro e9 w9 ⟨rfl, hb9'⟩; have HB9 := Lib.hid (below_two HB88.out hb9' HB88.out.size); obtain ⟨r0, r1, r2, r3, r4, r5, -, -⟩ := HGY2.out w9 HB9.out; have r6 := HY9.out w9 HB9.out; clear hb9')))
          all_goals
            go_wp2
            go_roundg (xs.length - k)
            case measure => omega
            case rel => exact HNX.out _ _ HB9.out (by go_num)
        · clear hru hrb hgm hmm hkc hkw hs6 HSC HRU e3 hmo' hk36 hpw hpx hfi hgy
          go_upto_region 16 with fail
          (go_simp)
          refine wp_region_still_tail 22 (by kernel_rfl) (by kernel_rfl) (still_of_quiet ?_)
          have hdw : Below wc.heap.size wc { wc with drawn := wc.drawn + 1 } := below_drew (Below.refl wc.heap.size wc)
          obtain ⟨x0, x1, x2, x3, x4, x5, x6, x7⟩ := HGY2.out _ hdw
          have HDW := Lib.hid hdw
          clear hdw
          generalize ({ wc with drawn := wc.drawn + 1 } : World) = W7 at *
          simp only [List.take_succ_cons, List.take_zero, List.drop_succ_cons, List.drop_zero]
          repeat (go_big_quiet_step (fail))
          refine wpQuiet_nil ?_
          go_wp2_with fail
          refine (HFI.out _ HDW.out).mono ?_
          rintro e9 w9 ⟨rfl, hb9'⟩
          have HB9 := Lib.hid (below_two HDW.out hb9' HDW.out.size)
          clear hb9' x0 x1 x2 x3 x4 x5 x6 x7
          go_wp2
          go_roundg (xs.length - k)
          case measure => omega
          case rel => exact HNX.out _ _ HB9.out (by go_num)
end Go.Proofs.YtcikenlflcofbaaDoor
