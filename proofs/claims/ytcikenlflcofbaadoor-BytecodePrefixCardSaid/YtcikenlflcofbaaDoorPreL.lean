/-
  BytecodePrefix: the law's call returns true.
-/
import Derived.Test.YtcikenlflcofbaaDoorK27
import Derived.Test.YtcikenlflcofbaaDoorP2
namespace Go.Proofs.YtcikenlflcofbaaDoor
open Go.RowKit

theorem infoRl : (Tryd.prog.info? 27).map (fun i => (i.zero, i.size, i.bytes)) = some (some (.agg #[.string ⟨#[]⟩, .string ⟨#[]⟩]), 2, 32) := by kernel_rfl
theorem rl_src {w : World} {S : Nat → Prop} {A : Option Addr} {n : Nat} {l : List Rl} (h : Rw RlC 2 w S A n l) : Src w 2 A n (l.flatMap rlL) := by
  refine ⟨?_, fun hn => ?_⟩
  · rw [List.length_flatMap, ← h.1]
    clear h
    induction l with
    | nil => rfl
    | cons x l ih => simp [rlL] at ih ⊢; omega
  · obtain ⟨b, o, e, -, hr⟩ := h.2 hn
    refine ⟨_, e, fun j u hu => ?_⟩
    rw [Addr.add_mid]
    have key : ∀ (l : List Rl) (o : Nat), (∀ k x, l[k]? = some x → ∃ cs, cs.length = 2 ∧ RlC w S cs x ∧ w.rangeAt b (o + k * 2) cs) → ∀ j u, (l.flatMap rlL)[j]? = some u → w.cell? ⟨b, o + j, Option.none⟩ = some u := by
      intro l
      induction l with
      | nil => intro o _ j u hu; simp at hu
      | cons x l ih =>
        intro o hk j u hu
        obtain ⟨cs, -, ⟨rfl, -⟩, hat⟩ := hk 0 x rfl
        match j, hu with
        | 0, hu => simp [rlL] at hu; subst hu; simpa using hat 0 _ rfl
        | 1, hu => simp [rlL] at hu; subst hu; simpa using hat 1 _ rfl
        | j + 2, hu =>
          have := ih (o + 2) (fun k y hy => by
            obtain ⟨cs, a1, a2, a3⟩ := hk (k + 1) y hy
            exact ⟨cs, a1, a2, by rw [show o + 2 + k * 2 = o + (k + 1) * 2 by omega]; exact a3⟩) j u (by simpa [rlL] using hu)
          rw [show o + (j + 2) = o + 2 + j by omega]
          exact this
    exact key l o hr j u hu
theorem rlL_len (l : List Rl) : (l.flatMap rlL).length = l.length * 2 := by
  induction l with
  | nil => rfl
  | cons x l ih => simp [rlL] at ih ⊢; omega
theorem rlL_last (i : List Rl) (r : Rl) (tx : List UInt8) : (((i ++ [r]).flatMap rlL)[i.length * 2 + 1]? = some (nmV r.text)) ∧ (((i ++ [r]).flatMap rlL).set (i.length * 2 + 1) (nmV tx) = ((i ++ [⟨r.nm, tx⟩] : List Rl)).flatMap rlL) := by
  have hl := rlL_len i
  rw [List.flatMap_append, List.flatMap_append]
  constructor
  · rw [List.getElem?_append_right (by omega), hl, show i.length * 2 + 1 - i.length * 2 = 1 by omega]
    rfl
  · rw [List.set_append_right _ _ (by omega), hl, show i.length * 2 + 1 - i.length * 2 = 1 by omega]
    rfl

theorem cmp_ok_code {rs : List Rl} {ins : List Sg} {P : Pg} {a : Int} (h : cmpP rs ins = (P, a, 0)) : (compP rs ins).2.2 = 0 ∧ P.code = (compP rs ins).1.1 := by
  unfold cmpP at h
  by_cases hc : (compP rs ins).2.2 = 0
  · rw [if_pos hc] at h
    injection h with h1 h2
    subst h1
    exact ⟨hc, rfl⟩
  · rw [if_neg hc] at h
    injection h with h1 h2
    exact absurd (by rw [h2]) hc
/-- The first loop: where the code of the others ends. -/
def PrA (W : World) (n m : Nat) (g : Nat) (v14 v67 : Value) (wr : World) : Prop :=
  ∃ k z : Nat, k ≤ n ∧ n - k < g ∧ v67 = .int .i64 (k : Int) ∧ v14 = .int .i64 (z : Int) ∧ z ≤ m ∧ Below W.heap.size W wr
def PrB (W : World) (n : Nat) (g : Nat) (v : Value) (wr : World) : Prop :=
  ∃ k : Nat, k ≤ n ∧ n - k < g ∧ v = .int .i64 (k : Int) ∧ Below W.heap.size W wr
set_option maxRecDepth 100000 in
set_option maxHeartbeats 8000000 in
theorem pre_any (A0 : Option Addr) (c0 : Nat) (rs : List Rl) (A1 : Option Addr) (c1 : Nat) (ins : List Sg) (tx : List UInt8) (w : World) (hw : Lw w) (hc0 : rs.length ≤ c0) (hm0 : c0 ≤ maxLen) (hr0 : Rw RlC 2 w (fun b => b < w.heap.size) A0 rs.length rs)
    (hc1 : ins.length ≤ c1) (hm1 : c1 ≤ maxLen) (hr1 : Rw SgC 2 w (fun b => b < w.heap.size) A1 ins.length ins) (htx : tx.length ≤ maxLen) :
    Calls Tryd.prog 3 #[.slice A0 rs.length c0, .slice A1 ins.length c1, .string ⟨tx.toArray⟩] w (RetB true w) := by
  have HF := Lib.hid (few_any A0 c0 rs A1 c1 ins w hr0)
  have HK := Lib.hid (fun W (h : Below w.heap.size w W) => known_any W (hw.below h))
  have HW := Lib.hid hw
  have HR0 := Lib.hid (fun W (h : Below w.heap.size w W) => hr0.mono RlC.mono (fun b q => Nat.lt_of_lt_of_le q h.size) (keepOn_below h fun b q => q))
  have HR1 := Lib.hid (fun W (h : Below w.heap.size w W) => hr1.mono SgC.mono (fun b q => Nat.lt_of_lt_of_le q h.size) (keepOn_below h fun b q => q))
  have HTX := Lib.hid htx
  clear hw hr0 hr1
  have HM := Lib.hid (And.intro hm0 (And.intro hc1 hm1))
  clear hm0 hm1 hc1
  unfold maxLen at htx
  obtain ⟨fb, hfb⟩ : ∃ fb, fewP rs ins = fb := ⟨_, rfl⟩
  have HFB := Lib.hid hfb
  rw [hfb] at HF
  clear hfb
  by_cases hgo : fb = true ∧ 1 ≤ rs.length ∧ tx.length ≤ 200
  case neg =>
    go_enter Tryd.func3, Tryd.ntmps3
    go_wp2_with fail
    refine HF.out.mono ?_
    rintro e w1 ⟨rfl, hb1⟩
    have HKN := Lib.hid (HK.out w1 hb1)
    have HB1 := Lib.hid hb1
    clear hb1
    have hcs : fb = false ∨ (fb = true ∧ (rs.length : Int) < 1) ∨ (fb = true ∧ (1 : Int) ≤ (rs.length : Int) ∧ (200 : Int) < (tx.length : Int)) := by
      cases fb with
      | false => exact .inl rfl
      | true =>
        by_cases h1 : rs.length < 1
        · exact .inr (.inl ⟨rfl, by omega⟩)
        · exact .inr (.inr ⟨rfl, by omega, by
            have : ¬ tx.length ≤ 200 := fun q => hgo ⟨rfl, by omega, q⟩
            omega⟩)
    clear hgo
    rcases hcs with rfl | ⟨rfl, d0⟩ | ⟨rfl, d0, d1⟩
    all_goals
      go_wp2_with fail
      refine HKN.out.mono ?_
      rintro e w2 ⟨rfl, hb2⟩
      have HB2 := Lib.hid (below_two HB1.out hb2 HB1.out.size)
      clear hb2
      go_wp2
      go_ret
      exact ⟨rfl, HB2.out⟩
  obtain ⟨rfl, hr1l, htl⟩ := hgo
  have hrl : rs.length ≤ 20 := by
    have := HFB.out
    unfold fewP at this
    simp at this
    omega
  obtain ⟨i, r, rfl⟩ : ∃ i r, rs = i ++ [r] := by
    rcases List.eq_nil_or_concat rs with h | ⟨i, r, h⟩
    · rw [h] at hr1l; simp at hr1l
    · exact ⟨i, r, by simpa using h⟩
  have hnl : (i ++ [r]).length = i.length + 1 := by simp
  rw [hnl] at HR0 HF hc0 hr1l hrl ⊢
  clear hnl
  obtain ⟨ti, hti, hzi⟩ := Option.map_eq_some_iff.1 infoRl
  obtain ⟨hz0, hz1, hz2⟩ : ti.zero = some (.agg #[.string ⟨#[]⟩, .string ⟨#[]⟩]) ∧ ti.size = 2 ∧ ti.bytes = 32 := by simpa using hzi
  have HTI := Lib.hid (And.intro hti (And.intro hz0 (And.intro hz1 hz2)))
  clear hti hzi hz0 hz1 hz2
  go_enter Tryd.func3, Tryd.ntmps3
  go_wp2_with fail
  refine HF.out.mono ?_
  rintro e w1 ⟨rfl, hb1⟩
  have hbx := box_below w1 (Obj.cells #[] 27)
  have HB1 := Lib.hid (below_two hb1 hbx hb1.size)
  have HOW := Lib.hid (World.ownsRow_made (e := 27) (size := 2) w1 #[] 0 (Nat.le_refl _) (Nat.zero_le _) rfl)
  have HBX := Lib.hid hbx
  have HSR := Lib.hid (rl_src (HR0.out _ HB1.out))
  have hs1 := hb1.size
  have d0 : ¬ ((i.length + 1 : Nat) : Int) < 1 := by omega
  have d1 : ¬ (200 : Int) < (tx.length : Int) := by omega
  clear hb1 hbx HF
  go_upto_region 4 with (at_builtin; refine wpList_append_src (o := ⟨some 35, _, _, _, _, _⟩) (w := w1.alloc (Obj.cells #[] 27)) _ _ 22 rfl rfl Tryd.underlying22 HTI.out.1 HTI.out.2.1 HTI.out.2.2.1 HTI.out.2.2.2 rfl (by decide) rfl HOW.out HBX.out rfl HSR.out (by intro u hu; obtain ⟨y, -, hy⟩ := List.mem_flatMap.1 hu; simp [rlL] at hy; rcases hy with rfl | rfl <;> rfl) (by unfold maxLen; omega) (by omega) (by rw [World.size_alloc]; omega) ?_; intro v2 w2 hown2 hb2 hs2; rw [Nat.zero_add, List.nil_append] at hown2; obtain ⟨g, cap, hv2, hlo2, hlt2⟩ := hown2.form (by omega); subst hv2; have HO2 := Lib.hid hown2; have HB2 := Lib.hid hb2; clear hown2 hb2)
  have hown := HO2.out
  obtain ⟨hla, hlb⟩ := rlL_last i r tx
  have hce := (hown.cellAt (i.length * 2 + 1) (by omega)).trans hla
  have hfr := hown.frozenAt (i.length * 2 + 1)
  obtain ⟨hst, hgs⟩ := hown.stored (i.length * 2 + 1) (nmV tx)
  rw [hlb] at hst
  have hidx : ((i.length + 1 : Nat) : Int) - 1 = (i.length : Int) := by omega
  have hidx2 : ((i.length : Int) + 1) - 1 = (i.length : Int) := by omega
  have HST := Lib.hid hst
  clear hown hla hlb hst
  go_upto_region 5 with fail
  have hw2s := HB2.out.size
  have hbw3 : Below w.heap.size w (w2.setCell ⟨g, i.length * 2 + 1, Option.none⟩ (nmV tx)) := by
    have h2 : Below w.heap.size w w2 := by
      have := HB1.out.os
      exact ⟨HB2.out.os.trans (HBX.out.os.symm.trans HB1.out.os), HB2.out.tape.trans (HBX.out.tape.symm.trans HB1.out.tape), HB2.out.output.trans (HBX.out.output.symm.trans HB1.out.output), by omega, fun b hb => (HB2.out.block b (by omega)).trans ((HBX.out.block b (by omega)).symm.trans (HB1.out.block b hb))⟩
    have gs := grown_set w2 g (i.length * 2 + 1) (nmV tx)
    exact ⟨gs.os.trans h2.os, gs.tape.trans h2.tape, gs.output.trans h2.output, Nat.le_trans h2.size gs.size, fun b hb => (gs.block b (Nat.lt_of_lt_of_le hb h2.size) (fun q => by injection q; omega)).trans (h2.block b hb)⟩
  generalize w2.setCell ⟨g, i.length * 2 + 1, Option.none⟩ (nmV tx) = W3 at *
  have HB3 := Lib.hid hbw3
  have HCR := Lib.hid (fun W (h : Below w.heap.size w W) => by
    have h1 := compile_any A0 c0 (i ++ [r]) A1 c1 ins W (HW.out.below h) (by rw [List.length_append, List.length_singleton]; exact hc0) HM.out.1 (by rw [List.length_append, List.length_singleton]; exact HR0.out W h) HM.out.2.1 HM.out.2.2 (HR1.out W h)
    rw [List.length_append, List.length_singleton] at h1
    exact h1)
  have hown3 : Rw RlC 2 W3 (fun b => b < W3.heap.size) (some ⟨g, 0, Option.none⟩) (i.length + 1) (i ++ [⟨r.nm, tx⟩]) := by
    refine Rw.of_own HST.out (by simp) (fun _ _ => rfl) (fun x hx => ?_) (fun b _ hb => hb)
    have hrm := rw_mem (HR0.out w (Below.refl _ _))
    rcases List.mem_append.1 hx with q | q
    · obtain ⟨cs, hcs⟩ := hrm x (List.mem_append_left _ q)
      exact ⟨rfl, hcs.2⟩
    · rw [List.mem_singleton.1 q]
      obtain ⟨cs, hcs⟩ := hrm r (List.mem_append_right _ (List.mem_singleton.2 rfl))
      exact ⟨rfl, hcs.2.1, HTX.out⟩
  have hcap : i.length + 1 ≤ cap ∧ cap ≤ maxLen := by
    obtain ⟨_, _, e1, l1, m1⟩ := own_shape HST.out
    injection e1 with _ _ e1
    subst e1
    exact ⟨l1, m1⟩
  have HCP := Lib.hid hcap
  have HCQ := Lib.hid (fun W (h : Below w.heap.size w W) (h3 : Below W3.heap.size W3 W) => by
    have h1 := compile_any (some ⟨g, 0, Option.none⟩) cap (i ++ [⟨r.nm, tx⟩]) A1 c1 ins W (HW.out.below h) (by rw [List.length_append, List.length_singleton]; exact HCP.out.1) HCP.out.2 (by rw [List.length_append, List.length_singleton]; exact hown3.mono RlC.mono (fun b q => Nat.lt_of_lt_of_le q h3.size) (keepOn_below h3 fun b q => q)) HM.out.2.1 HM.out.2.2 (HR1.out W h)
    rw [List.length_append, List.length_singleton] at h1
    exact h1)
  obtain ⟨P, a, er, hP⟩ : ∃ P a er, cmpP (i ++ [r]) ins = (P, a, er) := ⟨_, _, _, rfl⟩
  obtain ⟨Q, a', er', hQ⟩ : ∃ P a er, cmpP (i ++ [⟨r.nm, tx⟩]) ins = (P, a, er) := ⟨_, _, _, rfl⟩
  have HP := Lib.hid hP
  have HQ := Lib.hid hQ
  clear hbw3 hown3 hcap hP hQ HB1 HBX HB2 HO2 HST HSR HOW hce hfr hgs
  go_wp2_with fail
  refine (HCR.out _ HB3.out).mono ?_
  intro e w4 hret
  obtain ⟨B1, k1, B2, k2, B3, k3, B4, k4, rfl, hpg, hb4⟩ := hret.of HP.out
  have HPG := Lib.hid hpg
  have HB4 := Lib.hid hb4
  have hbp := box_below w4 (Obj.cells (pgC P ⟨B1, k1, B2, k2, B3, k3, B4, k4⟩) 32)
  have HBP := Lib.hid hbp
  have HB5 := Lib.hid (show Below W3.heap.size W3 (w4.alloc (Obj.cells (pgC P ⟨B1, k1, B2, k2, B3, k3, B4, k4⟩) 32)) from below_two hb4 hbp hb4.size)
  have HB6 := Lib.hid (show Below w.heap.size w (w4.alloc (Obj.cells (pgC P ⟨B1, k1, B2, k2, B3, k3, B4, k4⟩) 32)) from HB3.out.trans (HB5.out.mono HB3.out.size))
  have hbxp : (w4.alloc (Obj.cells (pgC P ⟨B1, k1, B2, k2, B3, k3, B4, k4⟩) 32)).heap[w4.heap.size]? = some (.cells (pgC P ⟨B1, k1, B2, k2, B3, k3, B4, k4⟩) 32 (0, 0)) := heap_alloc_new w4 _
  have HXP := Lib.hid hbxp
  clear hret hpg hb4 hbp hbxp
  go_wp2_with fail
  refine (HCQ.out _ HB6.out HB5.out).mono ?_
  intro e w5 hret
  obtain ⟨D1, l1, D2, l2, D3, l3, D4, l4, rfl, hqg, hb7⟩ := hret.of HQ.out
  have hbq := box_below w5 (Obj.cells (pgC Q ⟨D1, l1, D2, l2, D3, l3, D4, l4⟩) 32)
  have HB8 := Lib.hid (show Below w.heap.size w (w5.alloc (Obj.cells (pgC Q ⟨D1, l1, D2, l2, D3, l3, D4, l4⟩) 32)) from HB6.out.trans ((below_two hb7 hbq hb7.size).mono HB6.out.size))
  by_cases hee : er = 0 ∧ er' = 0
  case neg =>
    have HKN := Lib.hid (HK.out _ HB8.out)
    have hcs : (er != 0) = true ∨ ((er != 0) = false ∧ (er' != 0) = true) := by
      by_cases h : er = 0
      · right; exact ⟨by simpa using h, by simpa using fun q => hee ⟨h, q⟩⟩
      · left; simpa using h
    clear hee hret hqg hb7 hbq
    rcases hcs with d2 | ⟨d2, d3⟩
    all_goals
      go_wp2_with fail
      refine HKN.out.mono ?_
      rintro e w6 ⟨rfl, hb9⟩
      have HB9 := Lib.hid (below_two HB8.out hb9 HB8.out.size)
      clear hb9
      go_wp2
      go_ret
      exact ⟨rfl, HB9.out⟩
  obtain ⟨rfl, rfl⟩ := hee
  obtain ⟨hp0, hpc⟩ := cmp_ok_code HP.out
  obtain ⟨hq0, hqc⟩ := cmp_ok_code HQ.out
  obtain ⟨K, cc, cq, hk1, hk2, hk3⟩ := prefix_law (r := r) (r' := ⟨r.nm, tx⟩) rfl (fun t ht => parse_valid ht) hp0 hq0
  rw [← hpc] at hk1
  rw [← hqc] at hk2
  have HK1 := Lib.hid hk1
  have HK2 := Lib.hid hk2
  have HK3 := Lib.hid hk3
  have hkl : K.length ≤ Q.code.length := by rw [hk2]; simp
  have hkp : K.length ≤ P.code.length := by rw [hk1]; simp
  have hp4 := HPG.out.h4
  have hpm := HPG.out.m4
  have hq4 := hqg.h4
  have hqm := hqg.m4
  dsimp only at hp4 hpm hq4 hqm
  unfold maxLen at hpm hqm
  have hqx : (w5.alloc (Obj.cells (pgC Q ⟨D1, l1, D2, l2, D3, l3, D4, l4⟩) 32)).heap[w5.heap.size]? = some (.cells (pgC Q ⟨D1, l1, D2, l2, D3, l3, D4, l4⟩) 32 (0, 0)) := heap_alloc_new w5 _
  have hpx : (w5.alloc (Obj.cells (pgC Q ⟨D1, l1, D2, l2, D3, l3, D4, l4⟩) 32)).heap[w4.heap.size]? = some (.cells (pgC P ⟨B1, k1, B2, k2, B3, k3, B4, k4⟩) 32 (0, 0)) := ((below_two hb7 hbq hb7.size).block _ (by rw [World.size_alloc]; omega)).trans HXP.out
  have hpr : Rw InC 2 (w5.alloc (Obj.cells (pgC Q ⟨D1, l1, D2, l2, D3, l3, D4, l4⟩) 32)) (fun b => b < w5.heap.size) B4 P.code.length P.code :=
    HPG.out.r4.mono InC.mono (fun b q => by have := q.2; have := hb7.size; rw [World.size_alloc] at this; omega) (keepOn_below (below_two HBP.out (below_two hb7 hbq hb7.size) HBP.out.size) (fun b q => q.2))
  have hqr : Rw InC 2 (w5.alloc (Obj.cells (pgC Q ⟨D1, l1, D2, l2, D3, l3, D4, l4⟩) 32)) (fun b => b < w5.heap.size) D4 Q.code.length Q.code :=
    hqg.r4.mono InC.mono (fun b q => q.2) (keepOn_below hbq (fun b q => q.2))
  have hs6 := World.size_alloc w5 (Obj.cells (pgC Q ⟨D1, l1, D2, l2, D3, l3, D4, l4⟩) 32)
  have hs45 : w4.heap.size < w5.heap.size := by have := hb7.size; rw [World.size_alloc] at this; omega
  clear hret hqg hb7 hbq hp0 hpc hq0 hqc hk1 hk2 hk3
  go_upto_region 9 with fail
  generalize w5.alloc (Obj.cells (pgC Q ⟨D1, l1, D2, l2, D3, l3, D4, l4⟩) 32) = W6 at *
  have q3 : W6.cell? ⟨w4.heap.size, 3, Option.none⟩ = some (.slice B4 P.code.length k4) := by simp [World.cell?, hpx]
  have HPX := Lib.hid hpx
  have HQX := Lib.hid hqx
  have HPR := Lib.hid hpr
  have HQR := Lib.hid hqr
  clear hpx hqx hpr hqr
  go_wp2
  clear q3
  go_loopg [14, 67] (P.code.length + 1) (fun g v14 v67 wr => PrA W6 P.code.length K.length g v14 v67 wr)
  case atStart => exact ⟨0, 0, Nat.zero_le _, by omega, rfl, rfl, Nat.zero_le _, Below.refl _ _⟩
  case round =>
    obtain ⟨k, z, hk, hgk, rfl, rfl, hz, hbel⟩ := hrel
    have hsb := hbel.size
    by_cases hlt : k < P.code.length
    case pos =>
      obtain ⟨b, o, x, hA, hSb, hx, y0, y1⟩ := inAt (HPR.out.mono InC.mono (fun _ q => q) (keepOn_below hbel fun _ q => (show _ < W6.heap.size by omega))) hlt
      subst hA
      obtain ⟨op, a5⟩ := x
      dsimp only at y0 y1
      have hbk : b < wr.heap.size := by omega
      have HBX := Lib.hid (hbel.alloc hbel.size (Obj.cells #[.int .i64 op, .int .i64 a5] 37))
      have HX := Lib.hid hx
      clear hx hbel
      rcases (show op ≠ 32 ∨ (op = 32 ∧ a5 ≠ (i.length : Int) + 1 - 2) ∨ (op = 32 ∧ a5 = (i.length : Int) + 1 - 2) by omega) with e1 | ⟨rfl, e1⟩ | ⟨rfl, rfl⟩
      case inr.inr =>
        have hkK : k < K.length := by
          rcases Nat.lt_or_ge k K.length with h | h
          · exact h
          · exfalso
            have hx := HX.out
            rw [HK1.out, List.getElem?_append_right h] at hx
            have := HK3.out _ (List.mem_of_getElem? hx) rfl
            dsimp only at this
            omega
        go_wp2
        go_roundg (P.code.length - k)
        case measure => omega
        case rel => exact ⟨k + 1, k + 1, by omega, by omega, by go_num, by go_num, by omega, HBX.out⟩
      all_goals
        have e2 := e1
        go_wp2
        go_roundg (P.code.length - k)
        case measure => omega
        case rel => exact ⟨k + 1, z, by omega, by omega, by go_num, rfl, hz, HBX.out⟩
    obtain rfl : k = P.code.length := by omega
    have hbo := (hbel.block w5.heap.size (by omega)).trans HQX.out
    have hbp2 := (hbel.block w4.heap.size (by omega)).trans HPX.out
    have q3 : wr.cell? ⟨w5.heap.size, 3, Option.none⟩ = some (.slice D4 Q.code.length l4) := by simp [World.cell?, hbo]
    have p3 : wr.cell? ⟨w4.heap.size, 3, Option.none⟩ = some (.slice B4 P.code.length k4) := by simp [World.cell?, hbp2]
    have hzq : ¬ ((Q.code.length : Int) < (z : Int)) := by omega
    have HBL := Lib.hid hbel
    clear hbo hbp2 hlt hbel
    go_wp2
    go_loopg [17] (z + 1) (fun g v wq => PrB wr z g v wq)
    case atStart => exact ⟨0, Nat.zero_le _, by omega, rfl, Below.refl _ _⟩
    case round =>
      rename World => wq
      clear p3 q3
      obtain ⟨j, hj, hgj, rfl, hbq⟩ := hrel
      have hsq := hbq.size
      have hbq2 : Below W6.heap.size W6 wq := HBL.out.trans (hbq.mono hsb)
      have hbo := (hbq2.block w5.heap.size (by omega)).trans HQX.out
      have hbp2 := (hbq2.block w4.heap.size (by omega)).trans HPX.out
      have q3 : wq.cell? ⟨w5.heap.size, 3, Option.none⟩ = some (.slice D4 Q.code.length l4) := by simp [World.cell?, hbo]
      have p3 : wq.cell? ⟨w4.heap.size, 3, Option.none⟩ = some (.slice B4 P.code.length k4) := by simp [World.cell?, hbp2]
      have HBQ := Lib.hid hbq2
      have HBQ1 := Lib.hid hbq
      by_cases hjz : j < z
      case pos =>
        have hjK : j < K.length := by omega
        obtain ⟨b, o, x, hA, hSb, hx, y0, y1⟩ := inAt (HPR.out.mono InC.mono (fun _ q => q) (keepOn_below hbq2 fun _ q => (show _ < W6.heap.size by omega))) (show j < P.code.length by omega)
        obtain ⟨b', o', x', hA', hSb', hx', z0, z1⟩ := inAt (HQR.out.mono InC.mono (fun _ q => q) (keepOn_below hbq2 fun _ q => (show _ < W6.heap.size by omega))) (show j < Q.code.length by omega)
        have hxx : x = x' := by
          rw [HK1.out, List.getElem?_append_left hjK] at hx
          rw [HK2.out, List.getElem?_append_left hjK] at hx'
          rw [hx] at hx'
          injection hx'
        subst hxx
        subst hA
        subst hA'
        obtain ⟨op, a5⟩ := x
        dsimp only at y0 y1 z0 z1
        have hj1 : (j : Int) < (P.code.length : Int) := by omega
        have hj2 : (j : Int) < (Q.code.length : Int) := by omega
        clear hbq hbq2 hbo hbp2 hx hx' hSb hSb'
        go_upto_region 21 with fail
        go_region
        go_wp2
        go_roundg (z - j)
        case measure => omega
        case rel => exact ⟨j + 1, by omega, by omega, by go_num, below_drew HBQ1.out⟩
      obtain rfl : j = z := by omega
      have hbw := HB8.out.trans (hbq2.mono HB8.out.size)
      have HKN := Lib.hid (HK.out _ hbw)
      have HBW := Lib.hid hbw
      clear hbq hbq2 hbo hbp2 p3 q3 hbw hjz
      go_wp2_with fail
      refine HKN.out.mono ?_
      rintro e w6 ⟨rfl, hb9⟩
      have HB9 := Lib.hid (below_two HBW.out hb9 HBW.out.size)
      clear hb9
      go_wp2
      go_ret
      exact ⟨rfl, HB9.out⟩
end Go.Proofs.YtcikenlflcofbaaDoor
