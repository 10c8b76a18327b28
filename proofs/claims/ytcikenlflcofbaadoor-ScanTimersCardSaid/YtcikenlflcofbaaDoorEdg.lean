/-
  ScanEdges: rise, fall of the negation, and the count of the rises.
-/
import Derived.Test.YtcikenlflcofbaaDoorOneP
import Derived.Test.YtcikenlflcofbaaDoorNum
import Derived.Deep.DeepCutAuto
import Derived.BigQuiet
namespace Go.Proofs.YtcikenlflcofbaaDoor
open Go.RowKit

theorem dig_eq {n : Nat} (h : n < 100) : Lib.decDigits n = dig n := by
  unfold dig
  by_cases h10 : n < 10
  · rw [Lib.decDigits_one h10, if_pos h10]
  · rw [decDigits_big h10, Lib.decDigits_one (i := n / 10) (by omega), Lib.decDigits_one (i := n % 10) (by omega), if_neg h10]
    rfl
theorem bi_take (l : List Bool) {k : Nat} {b : Bool} (h : l[k]? = some b) : (bi l).take (k + 1) = (bi l).take k ++ [bitP b] := by
  unfold bi
  rw [List.take_add_one, List.getElem?_map, h]
  rfl
theorem dig_len (n : Nat) : (dig n).length ≤ 2 := by unfold dig; split <;> simp
theorem cntTx_len (n : Nat) : (cntTx n).length ≤ maxLen := by
  have h := dig_len n
  unfold cntTx maxLen
  rw [List.length_append]
  have e : ([99, 111, 117, 110, 116, 40, 97, 44, 32, 102, 97, 108, 115, 101, 41, 32, 61, 32] : List UInt8).length = 18 := rfl
  omega
theorem cat_two (a b : List UInt8) : (({ data := a.toArray } : ByteArray) ++ { data := b.toArray }) = ⟨(a ++ b).toArray⟩ := by
  apply ByteArray.ext
  rw [ByteArray.data_append]
  simp
theorem rw_take {α : Type} {R : World → (Nat → Prop) → List Value → α → Prop} {size n : Nat} {w : World} {S : Nat → Prop} {A : Option Addr} {l : List α} (h : Rw R size w S A n l) {k : Nat} (hk : k ≤ n) : Rw R size w S A k (l.take k) := by
  refine ⟨by rw [List.length_take, h.1]; omega, fun hp => ?_⟩
  obtain ⟨b, o, e, hb, hr⟩ := h.2 (by omega)
  refine ⟨b, o, e, hb, fun i x hx => ?_⟩
  rw [List.getElem?_take] at hx
  split at hx
  · exact hr i x hx
  · cases hx
def EdA (W : World) (base : Nat) (xa : List Bool) (g : Nat) (v3 v21 : Value) (wr : World) : Prop :=
  ∃ k : Nat, k ≤ xa.length ∧ xa.length - k < g ∧ v21 = .int .i64 (k : Int) ∧ wr.ownsRow base 3 1 v3 k (((bi xa).take k).map (Value.int .i64)) ∧ Below base W wr
def EdB (W : World) (xa : List Bool) (g : Nat) (v10 v53 : Value) (wr : World) : Prop := ∃ k : Nat, k ≤ xa.length ∧ xa.length - k < g ∧ v53 = .int .i64 (k : Int) ∧ v10 = .int .i64 (upsI xa k : Int) ∧ Below W.heap.size W wr
set_option maxRecDepth 100000 in
set_option maxHeartbeats 8000000 in
theorem edg_any (A : Option Addr) (c : Nat) (xa : List Bool) (w : World) (hw : Lw w) (hr : Rw BoC 1 w (Old w) A xa.length xa) (hc' : xa.length ≤ c) (hm' : c ≤ maxLen) :
    Calls Tryd.prog 7 #[.slice A xa.length c] w (RetB true w) := by
  have HR := Lib.hid hr
  have HW := Lib.hid hw
  by_cases h40 : 60 < xa.length
  case pos =>
    have hk := known28_any w hw
    have hb : decide ((60 : Int) < (xa.length : Int)) = true := by simp; omega
    have HK := Lib.hid hk
    have hlm : (xa.length : Int) ≤ 9223372036854775807 := by unfold maxLen at hm'; omega
    clear hk hr hw hm' hc'
    go_enter Tryd.func7, Tryd.ntmps7
    go_wp2_with fail
    refine HK.out.mono ?_
    rintro e w1 ⟨rfl, hb1⟩
    go_wp2
    go_ret
    exact ⟨rfl, hb1⟩
  have hal : xa.length ≤ 60 := by omega
  obtain ⟨tn, htn, hn0, hn1, hn2⟩ := info_parts infoNt
  clear hr hw hm' hc' h40
  go_enter Tryd.func7, Tryd.ntmps7
  go_wp2
  go_loopg [3, 21] (xa.length + 1) (fun g v3 v21 wr => EdA w w.heap.size xa g v3 v21 wr)
  case atStart => exact ⟨0, Nat.zero_le _, by omega, rfl, World.ownsRow_nil _ _ _ _, Below.refl _ _⟩
  case round =>
    rename World => wr
    obtain ⟨k, hk, hgk, rfl, hown, hbel⟩ := hrel
    have hszr := hbel.size
    obtain ⟨A3, c3, rfl, hc3, hm3⟩ := own_shape hown
    by_cases hlt : k < xa.length
    case pos =>
      obtain ⟨b, o, x, hA, hSb, hx, y0⟩ := boAt (HR.out.mono BoC.mono (fun _ q => q) (keepOn_below hbel fun _ q => q)) hlt
      subst hA
      have hbk : b < wr.heap.size := by have q' : b < w.heap.size := hSb; omega
      have HTK := Lib.hid (bi_take xa hx)
      have HLT : Hid ((((bi xa).take k).map (Value.int .i64)).length = k) := Lib.hid (by rw [List.length_map, List.length_take, bi_len]; omega)
      have HOW := Lib.hid (hown.alloc (Obj.cells #[.int .i64 0] 3))
      have HBQ := Lib.hid (hbel.alloc hszr (Obj.cells #[.int .i64 0] 3))
      have HSR := Lib.hid (src_box wr [.int .i64 0] 3 1 1 rfl)
      clear hown hbel hx hSb
      go_upto_region 8 with (at_builtin; refine wpList_append_src (o := ⟨some 27, _, _, _, _, _⟩) (w := wr.alloc (Obj.cells #[.int .i64 0] 3)) _ _ 51 rfl rfl Tryd.underlying51 htn hn0 hn1 hn2 rfl (by decide) rfl HOW.out HBQ.out rfl HSR.out (by intro u hu; rw [List.mem_singleton.1 hu]; rfl) (by unfold maxLen; omega) (by omega) (by rw [World.size_alloc]; omega) ?_; intro v7 w7 hown7 hb7 hs7; have HO7 := Lib.hid hown7; have HB7 := Lib.hid hb7; obtain ⟨A7, c7, hv7, -, -⟩ := own_shape hown7; clear hown7 hb7 hs7; subst hv7)
      obtain ⟨g, cap, hv, hlo, hlt7⟩ := HO7.out.form (Nat.succ_pos k)
      have hA : A7 = some ⟨g, 0, Option.none⟩ := by injection hv
      have hcc : c7 = cap := by injection hv
      subst hA
      subst hcc
      have hc0 : w7.cell? ⟨g, k, Option.none⟩ = some (.int .i64 0) := (HO7.out.cellAt k (by omega)).trans (by rw [List.getElem?_append_right (by rw [HLT.out]; exact Nat.le_refl _), HLT.out, Nat.sub_self]; rfl)
      have hfz : w7.frozen? ⟨g, k, Option.none⟩ = false := HO7.out.frozenAt _
      have hset : ((((bi xa).take k).map (Value.int .i64)) ++ [Value.int .i64 0]).set k (.int .i64 1) = (((bi xa).take k).map (Value.int .i64)) ++ [.int .i64 1] := by
        rw [List.set_append_right _ _ (by rw [HLT.out]; exact Nat.le_refl _), HLT.out, Nat.sub_self]
        rfl
      have hst := (HO7.out.stored k (.int .i64 1)).1
      rw [hset] at hst
      have HST := Lib.hid hst
      clear hset hst
      have HBT := Lib.hid (below_setg HB7.out hlo (Nat.le_refl _) k (.int .i64 1))
      cases x with
      | true =>
        go_wp2
        go_roundg (xa.length - k)
        case measure => omega
        case rel => exact ⟨k + 1, by omega, by omega, by go_num, by rw [HTK.out, List.map_append]; exact HST.out, HBT.out⟩
      | false =>
        go_wp2
        go_roundg (xa.length - k)
        case measure => omega
        case rel => exact ⟨k + 1, by omega, by omega, by go_num, by rw [HTK.out, List.map_append]; exact HO7.out, HB7.out⟩
    obtain rfl : k = xa.length := by omega
    have htk : (bi xa).take xa.length = bi xa := List.take_of_length_le (by rw [bi_len]; exact Nat.le_refl _)
    rw [htk] at hown
    have hrw : Rw IaC 1 wr (Old wr) A3 (bi xa).length (bi xa) := by
      rw [bi_len]
      exact Rw.of_own (f := fun z => [Value.int .i64 z]) (base := w.heap.size) (e := 3) (c := c3) (by rw [← List.map_eq_flatMap]; exact hown) (bi_len xa) (fun _ _ => rfl) (fun _ _ => rfl) (fun b h1 h2 => h2)
    have C1 := fun (W : World) (hb : Below wr.heap.size wr W) => runs_any [114, 105, 115, 101, 40, 97, 41] (bi xa) (outF riF ⟨false, 0⟩ xa) A3 c3 (p := risePg) W (HW.out.below (below_two hbel hb hszr)) (by decide) (hrw.mono IaC.mono (fun b q => Nat.lt_of_lt_of_le q hb.size) (keepOn_below hb fun _ q => q)) (by rw [bi_len]; omega) rise_cmp (rise_cell.run xa) (by rw [outF_len, bi_len])
    have C2 := fun (W : World) (hb : Below wr.heap.size wr W) => runs_any [102, 97, 108, 108, 40, 110, 111, 116, 32, 97, 41] (bi xa) (outF faF ⟨false, 0⟩ xa) A3 c3 (p := fallPg) W (HW.out.below (below_two hbel hb hszr)) (by decide) (hrw.mono IaC.mono (fun b q => Nat.lt_of_lt_of_le q hb.size) (keepOn_below hb fun _ q => q)) (by rw [bi_len]; omega) fall_cmp (fall_cell.run xa) (by rw [outF_len, bi_len])
    have HRW := Lib.hid hrw
    have HBEL := Lib.hid hbel
    have HC1 := Lib.hid (C1 wr (Below.refl _ _))
    have HC2 := Lib.hid C2
    have HLB := Lib.hid (bi_len xa)
    clear C1 C2 hrw hbel hown htk hlt
    rw [HLB.out] at HC1
    go_wp2_with fail
    refine HC1.out.mono ?_
    rintro e w1 ⟨A1, c1, rfl, hc1, hm1, hr1, hb1⟩
    rw [outF_len] at hr1 hc1 ⊢
    have HR1 := Lib.hid hr1
    have HB1 := Lib.hid hb1
    have HC2' := Lib.hid (HC2.out w1 hb1)
    rw [HLB.out] at HC2'
    unfold maxLen at hm1
    clear hr1 hb1 HC2 HC1
    go_wp2_with fail
    refine HC2'.out.mono ?_
    rintro e w2 ⟨A2, c2, rfl, hc2, hm2, hr2, hb2⟩
    rw [outF_len] at hr2 hc2 ⊢
    have HB2 := Lib.hid (below_two HB1.out hb2 HB1.out.size)
    have HR1' := Lib.hid (HR1.out.mono IaC.mono (S' := Old w2) (fun b q => Nat.lt_of_lt_of_le q.2 hb2.size) (keepOn_below hb2 fun _ q => q.2))
    have HR2' := Lib.hid (hr2.mono IaC.mono (S' := Old w2) (fun b q => q.2) (KeepOn.refl _ _))
    have HRA := Lib.hid (HRW.out.mono IaC.mono (S' := Old w2) (fun b q => Nat.lt_of_lt_of_le q HB2.out.size) (keepOn_below HB2.out fun _ q => q))
    unfold maxLen at hm2
    clear hr2 hb2 HC2' HR1 HB1 HRW
    have HBW := Lib.hid (below_two HBEL.out HB2.out hszr)
    have HRX := Lib.hid (HR.out.mono BoC.mono (S' := Old w2) (fun b q => Nat.lt_of_lt_of_le q HBW.out.size) (keepOn_below HBW.out fun _ q => q))
    go_wp2
    go_loopg [10, 53] (xa.length + 1) (fun g v10 v53 wq => EdB w2 xa g v10 v53 wq)
    case atStart => exact ⟨0, Nat.zero_le _, by omega, rfl, rfl, Below.refl _ _⟩
    case round =>
      rename World => wq
      obtain ⟨j, hj, hgj, rfl, rfl, hbq⟩ := hrel
      have hsq := hbq.size
      have hbo := below_two HBW.out hbq HBW.out.size
      by_cases hlt : j < xa.length
      case neg =>
        have HK := Lib.hid (known28_any wq (HW.out.below hbo))
        have HBO := Lib.hid hbo
        clear hbo hbq
        go_wp2_with fail
        refine HK.out.mono ?_
        rintro e w7 ⟨rfl, hb7⟩
        have hb8 := below_two HBO.out hb7 HBO.out.size
        have HB8 := Lib.hid hb8
        clear hb7 hb8
        go_wp2
        go_ret
        exact ⟨rfl, HB8.out⟩
      obtain ⟨b, o, x, hA, hSb, hx, y0⟩ := boAt (HRX.out.mono BoC.mono (S' := Old wq) (fun b q => Nat.lt_of_lt_of_le q hsq) (keepOn_below hbq fun _ q => q)) hlt
      have hbk : b < wq.heap.size := hSb
      have HX0 := Lib.hid hx
      have HBQ := Lib.hid hbq
      have HBO := Lib.hid hbo
      have HRB := Lib.hid (HRX.out.mono BoC.mono (S' := Old wq) (fun b q => Nat.lt_of_lt_of_le q hsq) (keepOn_below hbq fun _ q => q))
      subst hA
      have hi1 : (j : Int) < (xa.length : Int) := by omega
      clear hbq hbo hx hSb
      go_upto_region 19 with fail
      go_cut [12] (fun v12 wc => v12 = .bool (upB xa j) ∧ wc = wq)
      case first =>
        have hgx : xa.getD j false = x := by rw [List.getD_eq_getElem?_getD, HX0.out]; rfl
        cases x with
        | false =>
          have HU := Lib.hid (show upB xa j = false by unfold upB; rw [hgx, Bool.false_and])
          clear hgx
          go_wp2
          go_meet
          exact ⟨by rw [HU.out], rfl⟩
        | true =>
          rcases Nat.eq_zero_or_pos j with rfl | hjp
          · have HU := Lib.hid (show upB xa 0 = true by unfold upB; rw [hgx]; rfl)
            have y0 : wq.cell? ⟨b, o, Option.none⟩ = some (.bool true) := y0
            clear hgx
            go_wp2
            go_meet
            exact ⟨by rw [HU.out], rfl⟩
          · obtain ⟨b9, o9, x9, hA9, -, hx9, y9⟩ := boAt HRB.out (show j - 1 < xa.length by omega)
            cases hA9
            have n0 : ((j : Int) == 0) = false := by simp; omega
            have n1 : ((j : Int) - 1).toNat = j - 1 := by omega
            have n2 : IntKind.i64.wrap ((j : Int) - 1) = (j : Int) - 1 := IntWalk.i64_in _ (by omega)
            have n3 : 0 ≤ (j : Int) - 1 := by omega
            have n4 : (j : Int) - 1 < (xa.length : Int) := by omega
            have HU := Lib.hid (show upB xa j = !x9 by unfold upB; rw [hgx, List.getD_eq_getElem?_getD (l := xa) (i := j - 1), hx9, decide_eq_false (show ¬ j = 0 by omega)]; cases x9 <;> rfl)
            clear hgx hx9
            cases x9 with
            | false =>
              go_wp2
              go_meet
              exact ⟨by rw [HU.out]; rfl, rfl⟩
            | true =>
              go_wp2
              go_meet
              exact ⟨by rw [HU.out]; rfl, rfl⟩
      case rest =>
        obtain ⟨rfl, rfl⟩ := hcut
        have hup := upsI_succ xa j
        have hul := upsI_le xa (j + 1)
        have hul0 := upsI_le xa j
        go_upto_if 72 with fail
        go_cut [10, 12] (fun v10 v12 wd => v10 = .int .i64 (upsI xa (j + 1) : Int) ∧ v12 = .bool (upB xa j) ∧ wd = wc)
        case first =>
          cases hub : upB xa j with
          | true =>
            rw [hub, if_pos rfl] at hup
            have HUP := Lib.hid hup
            clear hup
            go_wp2
            go_meet
            exact ⟨by rw [HUP.out]; rfl, by rw [hub], rfl⟩
          | false =>
            rw [hub] at hup
            have HUP := Lib.hid hup
            clear hup
            go_wp2
            go_meet
            exact ⟨by rw [HUP.out]; rfl, by rw [hub], rfl⟩
        case rest =>
          obtain ⟨rfl, rfl, rfl⟩ := hcut
          have hu60 : upsI xa (j + 1) < 61 := by omega
          have hrx := rw_take (HRA.out.mono IaC.mono (S' := Old wc) (fun b q => Nat.lt_of_lt_of_le q hsq) (keepOn_below HBQ.out fun _ q => q)) (show j + 1 ≤ (bi xa).length by rw [HLB.out]; omega)
          have hbt : (bi xa).take (j + 1) = bi (xa.take (j + 1)) := by unfold bi; rw [List.map_take]
          have hbl : (bi (xa.take (j + 1))).length = j + 1 := by rw [bi_len, List.length_take]; omega
          rw [hbt] at hrx
          have CR := fun (W : World) (hb : Below wc.heap.size wc W) => runs_any (cntTx (upsI xa (j + 1))) (bi (xa.take (j + 1))) (outF (cntF (upsI xa (j + 1))) ⟨false, 0⟩ (xa.take (j + 1))) A3 c3 (p := cntPg (upsI xa (j + 1))) W (HW.out.below (below_two HBO.out hb HBO.out.size)) (cntTx_len _) (by rw [hbl]; exact hrx.mono IaC.mono (fun b q => Nat.lt_of_lt_of_le q hb.size) (keepOn_below hb fun _ q => q)) (by rw [hbl]; omega) (cnt_cmp hu60) ((cnt_cell hu60).run _) (by rw [outF_len, bi_len])
          rw [hbl] at CR
          have hcat : ({ data := #[99, 111, 117, 110, 116, 40, 97, 44, 32, 102, 97, 108, 115, 101, 41, 32, 61, 32] } : ByteArray) ++ { data := (dig (upsI xa (j + 1))).toArray } = ⟨(cntTx (upsI xa (j + 1))).toArray⟩ := cat_two _ _
          have hdl := dig_len (upsI xa (j + 1))
          have HN : Hid (∀ W : World, Calls Tryd.prog 21 #[.int .i64 (upsI xa (j + 1) : Int)] W (RetStr (dig (upsI xa (j + 1))) W)) := Lib.hid fun W => by
            rw [← dig_eq (by omega)]
            exact rnumber_any _ (by omega) W
          have HCR := Lib.hid CR
          have hj1 : (j : Int) + 1 ≤ (xa.length : Int) := by omega
          have hj2 : (xa.length : Int) ≤ (c3 : Int) := by omega
          have hj3 : ((j : Int) + 1).toNat = j + 1 := by omega
          have hj4 : IntKind.i64.wrap ((j : Int) + 1) = (j : Int) + 1 := IntWalk.i64_in _ (by omega)
          have hj5 : 0 ≤ (j : Int) + 1 := by omega
          have hj6 : (j : Int) + 1 ≤ (c3 : Int) := by omega
          have m1 : ¬ 9223372036854775807 < 18 + (dig (upsI xa (j + 1))).length := by omega
          clear CR hrx hbt hbl hup
          go_upto_region 22 with fail
          go_region_law (first | ((go_simp; go_at_call 21; refine (HN.out _).mono ?_; rintro e7 w7 ⟨rfl, hb7⟩)) | ((go_simp; go_at_call 20; refine (HCR.out _ (below_two (below_drew (Below.refl _ _)) hb7 (Nat.le_refl _))).mono ?_; rintro e8 w8 ⟨A4, c4, rfl, hc4, hm4, hr4, hb8⟩)))
          all_goals
            have htl : (xa.take (j + 1)).length = j + 1 := by rw [List.length_take]; omega
            rw [outF_len, htl] at hr4 hc4 ⊢
            have hb77 := below_two (below_drew (Below.refl wc.heap.size wc)) hb7 (Nat.le_refl _)
            have hb88 := below_two hb77 hb8 hb77.size
            have HB88 := Lib.hid hb88
            have hs8 := hb88.size
            have hsq8 := Nat.le_trans hsq hs8
            obtain ⟨bc, oc, xc, hAc, hSc, hxc, yc⟩ := iaAt (hr4.mono IaC.mono (S' := Old w8) (fun b q => q.2) (KeepOn.refl _ _)) (Nat.lt_succ_self j)
            obtain ⟨br, or, xr, hAr, hSr, hxr, yr⟩ := iaAt (HR1'.out.mono IaC.mono (S' := Old w8) (fun b q => Nat.lt_of_lt_of_le q hsq8) (keepOn_below (below_two HBQ.out hb88 hsq) fun _ q => q)) hlt
            obtain ⟨bf, of, xf, hAf, hSf, hxf, yf⟩ := iaAt (HR2'.out.mono IaC.mono (S' := Old w8) (fun b q => Nat.lt_of_lt_of_le q hsq8) (keepOn_below (below_two HBQ.out hb88 hsq) fun _ q => q)) hlt
            rw [cnt_get hlt hal] at hxc
            rw [rise_get hlt] at hxr
            cases hxc
            cases hxr
            subst hAc
            subst hAr
            subst hAf
            have hbc : bc < w8.heap.size := hSc
            have hbr : br < w8.heap.size := hSr
            have hbf : bf < w8.heap.size := hSf
            have HNX := Lib.hid (fun n => below_two HBQ.out (below_drewN hb88 n) hsq)
            have hi5 : (j : Int) < ((j + 1 : Nat) : Int) := by omega
            clear hr4 hb77 hb7 hb8 hb88 hSc hSr hSf htl HCR HN m1
            have hxf' : 0 < j → xf = bitP (upB xa j) := fun h0 => by rw [fall_get hlt h0] at hxf; exact (Option.some.inj hxf).symm
            have HXF := Lib.hid hxf'
            clear hxf hxf'
            generalize upB xa j = ub at *
            generalize hJ : j + 1 = J at *
            have hj7 : J ≤ xa.length := by omega
            have hj8 : xa.length - J < xa.length - j := by omega
            have hj9 : Value.int .i64 ((j : Int) + 1) = .int .i64 (J : Int) := by rw [← hJ]; rfl
            have HJ9 := Lib.hid hj9
            clear hJ hj9 hj3 hj4 hj5 hj6 hj1
            rcases Nat.eq_zero_or_pos j with h0 | h0
            · have hz : decide ((0 : Int) < (j : Int)) = false := by simp; omega
              have hz2 : decide (0 < j) = false := decide_eq_false (by omega)
              have HJ0 := Lib.hid h0
              clear h0
              cases ub with
              | true =>
                replace yr : w8.cell? ⟨br, or + j, Option.none⟩ = some (.int .i64 1) := yr
                go_wp2_with fail
                (go_simp)
                go_big_quiet (fail)
                go_wp2
                go_roundg (xa.length - j)
                case measure => omega
                case rel => exact ⟨J, hj7, hj8, by first | exact HJ9.out | (rw [← HJ9.out]; go_num), rfl, HNX.out _⟩
              | false =>
                replace yr : w8.cell? ⟨br, or + j, Option.none⟩ = some (.int .i64 0) := yr
                go_wp2_with fail
                (go_simp)
                go_big_quiet (fail)
                go_wp2
                go_roundg (xa.length - j)
                case measure => omega
                case rel => exact ⟨J, hj7, hj8, by first | exact HJ9.out | (rw [← HJ9.out]; go_num), rfl, HNX.out _⟩
            · have hz : decide ((0 : Int) < (j : Int)) = true := by simp; omega
              have hz2 : decide (0 < j) = true := decide_eq_true h0
              obtain rfl : xf = bitP ub := HXF.out h0
              have HJ0 := Lib.hid h0
              clear h0 HXF
              cases ub with
              | true =>
                replace yr : w8.cell? ⟨br, or + j, Option.none⟩ = some (.int .i64 1) := yr
                replace yf : w8.cell? ⟨bf, of + j, Option.none⟩ = some (.int .i64 1) := yf
                go_wp2_with fail
                (go_simp)
                go_big_quiet (fail)
                go_wp2
                go_roundg (xa.length - j)
                case measure => omega
                case rel => exact ⟨J, hj7, hj8, by first | exact HJ9.out | (rw [← HJ9.out]; go_num), rfl, HNX.out _⟩
              | false =>
                replace yr : w8.cell? ⟨br, or + j, Option.none⟩ = some (.int .i64 0) := yr
                replace yf : w8.cell? ⟨bf, of + j, Option.none⟩ = some (.int .i64 0) := yf
                go_wp2_with fail
                (go_simp)
                go_big_quiet (fail)
                go_wp2
                go_roundg (xa.length - j)
                case measure => omega
                case rel => exact ⟨J, hj7, hj8, by first | exact HJ9.out | (rw [← HJ9.out]; go_num), rfl, HNX.out _⟩
end Go.Proofs.YtcikenlflcofbaaDoor
