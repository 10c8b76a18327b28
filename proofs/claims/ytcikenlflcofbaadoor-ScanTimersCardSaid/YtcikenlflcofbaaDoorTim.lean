/-
  ScanTimers: delay and hold.
-/
import Derived.Test.YtcikenlflcofbaaDoorEdg
namespace Go.Proofs.YtcikenlflcofbaaDoor
open Go.RowKit

theorem delTx_len (n : Nat) : (delTx n).length ≤ maxLen := by
  have h := dig_len n
  unfold delTx maxLen
  rw [List.length_append, List.length_append]
  have e : ([100, 101, 108, 97, 121, 40, 97, 44, 32] : List UInt8).length = 9 := rfl
  have e2 : ([41] : List UInt8).length = 1 := rfl
  omega
theorem holTx_len (n : Nat) : (holTx n).length ≤ maxLen := by
  have h := dig_len n
  unfold holTx maxLen
  rw [List.length_append, List.length_append]
  have e : ([104, 111, 108, 100, 40, 97, 44, 32] : List UInt8).length = 8 := rfl
  have e2 : ([41] : List UInt8).length = 1 := rfl
  omega
theorem bitP_true : bitP true = 1 := rfl
theorem bitP_false : bitP false = 0 := rfl
def TiB (W : World) (xa : List Bool) (g : Nat) (v70 : Value) (wr : World) : Prop := ∃ k : Nat, k ≤ xa.length ∧ xa.length - k < g ∧ v70 = .int .i64 (k : Int) ∧ Below W.heap.size W wr
def TiC (W : World) (xa : List Bool) (j n : Nat) (g : Nat) (v13 v14 v15 : Value) (wr : World) : Prop := ∃ (s : Nat) (z : Int), s ≤ min (j + 1) (n + 1) ∧ min (j + 1) (n + 1) - s < g ∧ z = (j : Int) - (s : Int) ∧ v13 = .bool (decide (n ≤ j) && allD xa j s) ∧ v14 = .bool (anyD xa j s) ∧ v15 = .int .i64 z ∧ wr = W
set_option maxRecDepth 100000 in
set_option maxHeartbeats 8000000 in
theorem tim_any (A : Option Addr) (c : Nat) (xa : List Bool) (n0 : Int) (w : World) (hw : Lw w) (hr : Rw BoC 1 w (Old w) A xa.length xa) (hc' : xa.length ≤ c) (hm' : c ≤ maxLen) :
    Calls Tryd.prog 6 #[.slice A xa.length c, .int .i64 n0] w (RetB true w) := by
  have HR := Lib.hid hr
  have HW := Lib.hid hw
  by_cases h40 : 60 < xa.length ∨ n0 < 0 ∨ 70 < n0
  case pos =>
    have hk := known28_any w hw
    have HK := Lib.hid hk
    have hlm : (xa.length : Int) ≤ 9223372036854775807 := by unfold maxLen at hm'; omega
    clear hk hr hw hm' hc'
    by_cases h1 : 60 < xa.length
    · have hb : decide ((60 : Int) < (xa.length : Int)) = true := by simp; omega
      clear h40 h1
      go_enter Tryd.func6, Tryd.ntmps6
      go_wp2_with fail
      refine HK.out.mono ?_
      rintro e w1 ⟨rfl, hb1⟩
      go_wp2
      go_ret
      exact ⟨rfl, hb1⟩
    have hb : decide ((60 : Int) < (xa.length : Int)) = false := by simp; omega
    by_cases h2 : n0 < 0
    · have hb2 : decide (n0 < 0) = true := by simp; omega
      clear h40 h1
      go_enter Tryd.func6, Tryd.ntmps6
      go_wp2_with fail
      refine HK.out.mono ?_
      rintro e w1 ⟨rfl, hb1⟩
      go_wp2
      go_ret
      exact ⟨rfl, hb1⟩
    have hb2 : decide (n0 < 0) = false := by simp; omega
    have hb3 : decide (70 < n0) = true := by simp; omega
    clear h40 h1 h2
    go_enter Tryd.func6, Tryd.ntmps6
    go_wp2_with fail
    refine HK.out.mono ?_
    rintro e w1 ⟨rfl, hb1⟩
    go_wp2
    go_ret
    exact ⟨rfl, hb1⟩
  obtain ⟨n, rfl⟩ : ∃ n : Nat, n0 = (n : Int) := ⟨n0.toNat, by omega⟩
  have hn70 : n < 71 := by omega
  have hal : xa.length ≤ 60 := by omega
  have g1 : decide ((60 : Int) < (xa.length : Int)) = false := decide_eq_false (by omega)
  have g2 : decide ((n : Int) < 0) = false := decide_eq_false (by omega)
  have g3 : decide (70 < (n : Int)) = false := decide_eq_false (by omega)
  obtain ⟨tn, htn, hn0, hn1, hn2⟩ := info_parts infoNt
  clear hr hw hm' hc' h40
  go_enter Tryd.func6, Tryd.ntmps6
  go_wp2
  clear g1 g2 g3
  go_loopg [5, 30] (xa.length + 1) (fun g v3 v21 wr => EdA w w.heap.size xa g v3 v21 wr)
  case atStart => exact ⟨0, Nat.zero_le _, by omega, rfl, World.ownsRow_nil _ _ _ _, Below.refl _ _⟩
  case round =>
    rename World => wr
    obtain ⟨k, hk, hgk, rfl, hown, hbel⟩ := hrel
    have hszr := hbel.size
    obtain ⟨A3, c3, rfl, hc3, hm3⟩ := own_shape hown
    by_cases hlt : k < xa.length
    case pos =>
      obtain ⟨b, o, x, hA, hSb, hx, y0⟩ := boAt (HR.out.mono BoC.mono (fun _ q => q) (keepOn_below hbel fun _ q => q)) hlt
      subst hA
      have hbk : b < wr.heap.size := by have q' : b < w.heap.size := hSb; omega
      have HTK := Lib.hid (bi_take xa hx)
      have HLT : Hid ((((bi xa).take k).map (Value.int .i64)).length = k) := Lib.hid (by rw [List.length_map, List.length_take, bi_len]; omega)
      have HOW := Lib.hid (hown.alloc (Obj.cells #[.int .i64 0] 3))
      have HBQ := Lib.hid (hbel.alloc hszr (Obj.cells #[.int .i64 0] 3))
      have HSR := Lib.hid (src_box wr [.int .i64 0] 3 1 1 rfl)
      clear hown hbel hx hSb
      go_upto_region 8 with (at_builtin; refine wpList_append_src (o := ⟨some 36, _, _, _, _, _⟩) (w := wr.alloc (Obj.cells #[.int .i64 0] 3)) _ _ 51 rfl rfl Tryd.underlying51 htn hn0 hn1 hn2 rfl (by decide) rfl HOW.out HBQ.out rfl HSR.out (by intro u hu; rw [List.mem_singleton.1 hu]; rfl) (by unfold maxLen; omega) (by omega) (by rw [World.size_alloc]; omega) ?_; intro v7 w7 hown7 hb7 hs7; have HO7 := Lib.hid hown7; have HB7 := Lib.hid hb7; obtain ⟨A7, c7, hv7, -, -⟩ := own_shape hown7; clear hown7 hb7 hs7; subst hv7)
      obtain ⟨g, cap, hv, hlo, hlt7⟩ := HO7.out.form (Nat.succ_pos k)
      have hA : A7 = some ⟨g, 0, Option.none⟩ := by injection hv
      have hcc : c7 = cap := by injection hv
      subst hA
      subst hcc
      have hc0 : w7.cell? ⟨g, k, Option.none⟩ = some (.int .i64 0) := (HO7.out.cellAt k (by omega)).trans (by rw [List.getElem?_append_right (by rw [HLT.out]; exact Nat.le_refl _), HLT.out, Nat.sub_self]; rfl)
      have hfz : w7.frozen? ⟨g, k, Option.none⟩ = false := HO7.out.frozenAt _
      have hset : ((((bi xa).take k).map (Value.int .i64)) ++ [Value.int .i64 0]).set k (.int .i64 1) = (((bi xa).take k).map (Value.int .i64)) ++ [.int .i64 1] := by
        rw [List.set_append_right _ _ (by rw [HLT.out]; exact Nat.le_refl _), HLT.out, Nat.sub_self]
        rfl
      have hst := (HO7.out.stored k (.int .i64 1)).1
      rw [hset] at hst
      have HST := Lib.hid hst
      clear hset hst
      have HBT := Lib.hid (below_setg HB7.out hlo (Nat.le_refl _) k (.int .i64 1))
      cases x with
      | true =>
        go_wp2
        go_roundg (xa.length - k)
        case measure => omega
        case rel => exact ⟨k + 1, by omega, by omega, by go_num, by rw [HTK.out, List.map_append]; exact HST.out, HBT.out⟩
      | false =>
        go_wp2
        go_roundg (xa.length - k)
        case measure => omega
        case rel => exact ⟨k + 1, by omega, by omega, by go_num, by rw [HTK.out, List.map_append]; exact HO7.out, HB7.out⟩
    obtain rfl : k = xa.length := by omega
    have htk : (bi xa).take xa.length = bi xa := List.take_of_length_le (by rw [bi_len]; exact Nat.le_refl _)
    rw [htk] at hown
    have hrw : Rw IaC 1 wr (Old wr) A3 (bi xa).length (bi xa) := by
      rw [bi_len]
      exact Rw.of_own (f := fun z => [Value.int .i64 z]) (base := w.heap.size) (e := 3) (c := c3) (by rw [← List.map_eq_flatMap]; exact hown) (bi_len xa) (fun _ _ => rfl) (fun _ _ => rfl) (fun b h1 h2 => h2)
    have hcat1 : ({ data := #[100, 101, 108, 97, 121, 40, 97, 44, 32] } : ByteArray) ++ { data := (dig n).toArray } = ⟨([100, 101, 108, 97, 121, 40, 97, 44, 32] ++ dig n).toArray⟩ := cat_two _ _
    have hcat2 : ({ data := ([100, 101, 108, 97, 121, 40, 97, 44, 32] ++ dig n).toArray } : ByteArray) ++ { data := #[41] } = ⟨(delTx n).toArray⟩ := cat_two _ _
    have hcat3 : ({ data := #[104, 111, 108, 100, 40, 97, 44, 32] } : ByteArray) ++ { data := (dig n).toArray } = ⟨([104, 111, 108, 100, 40, 97, 44, 32] ++ dig n).toArray⟩ := cat_two _ _
    have hcat4 : ({ data := ([104, 111, 108, 100, 40, 97, 44, 32] ++ dig n).toArray } : ByteArray) ++ { data := #[41] } = ⟨(holTx n).toArray⟩ := cat_two _ _
    have hdl := dig_len n
    have HN : Hid (∀ W : World, Calls Tryd.prog 21 #[.int .i64 (n : Int)] W (RetStr (dig n) W)) := Lib.hid fun W => by
      rw [← dig_eq (by omega)]
      exact rnumber_any _ (by omega) W
    have C1 := fun (W : World) (hb : Below wr.heap.size wr W) => runs_any (delTx n) (bi xa) (outF (deF n) ⟨false, 0⟩ xa) A3 c3 (p := delPg n) W (HW.out.below (below_two hbel hb hszr)) (delTx_len n) (hrw.mono IaC.mono (fun b q => Nat.lt_of_lt_of_le q hb.size) (keepOn_below hb fun _ q => q)) (by rw [bi_len]; omega) (del_cmp hn70) ((del_cell hn70).run xa) (by rw [outF_len, bi_len])
    have C2 := fun (W : World) (hb : Below wr.heap.size wr W) => runs_any (holTx n) (bi xa) (outF (hoF n) ⟨false, 0⟩ xa) A3 c3 (p := holPg n) W (HW.out.below (below_two hbel hb hszr)) (holTx_len n) (hrw.mono IaC.mono (fun b q => Nat.lt_of_lt_of_le q hb.size) (keepOn_below hb fun _ q => q)) (by rw [bi_len]; omega) (hol_cmp hn70) ((hol_cell hn70).run xa) (by rw [outF_len, bi_len])
    rw [bi_len] at C1 C2
    have HRW := Lib.hid hrw
    have HBEL := Lib.hid hbel
    have HC1 := Lib.hid C1
    have HC2 := Lib.hid C2
    have HLB := Lib.hid (bi_len xa)
    have e9 : 9 + (dig n).length ≤ 9223372036854775807 := by omega
    have m1 : ¬ 9223372036854775807 < 9 + (dig n).length := by omega
    have m2 : ¬ 9223372036854775807 < ([100, 101, 108, 97, 121, 40, 97, 44, 32] ++ dig n).length + 1 := by rw [List.length_append, show ([100, 101, 108, 97, 121, 40, 97, 44, 32] : List UInt8).length = 9 from rfl]; omega
    have m3 : ¬ 9223372036854775807 < 8 + (dig n).length := by omega
    have m4 : ¬ 9223372036854775807 < ([104, 111, 108, 100, 40, 97, 44, 32] ++ dig n).length + 1 := by rw [List.length_append, show ([104, 111, 108, 100, 40, 97, 44, 32] : List UInt8).length = 8 from rfl]; omega
    generalize hD1 : ([100, 101, 108, 97, 121, 40, 97, 44, 32] ++ dig n : List UInt8) = D1 at *
    generalize hD2 : ([104, 111, 108, 100, 40, 97, 44, 32] ++ dig n : List UInt8) = D2 at *
    clear hD1 hD2 C1 C2 hrw hbel hown htk hlt e9
    go_wp2_with fail
    refine (HN.out _).mono ?_
    rintro e w1 ⟨rfl, hb1⟩
    have HB1 := Lib.hid hb1
    clear hb1
    go_wp2_with fail
    refine (HC1.out _ HB1.out).mono ?_
    rintro e w2 ⟨A1, c1, rfl, hc1, hm1, hr1, hb2⟩
    rw [outF_len] at hr1 hc1 ⊢
    have HR1 := Lib.hid hr1
    have HB2 := Lib.hid (below_two HB1.out hb2 HB1.out.size)
    unfold maxLen at hm1
    clear hr1 hb2 HC1
    go_wp2_with fail
    refine (HN.out _).mono ?_
    rintro e w3 ⟨rfl, hb3⟩
    have HB3 := Lib.hid (below_two HB2.out hb3 HB2.out.size)
    have HR3 := Lib.hid (HR1.out.mono IaC.mono (S' := Old w3) (fun b q => Nat.lt_of_lt_of_le q.2 hb3.size) (keepOn_below hb3 fun _ q => q.2))
    clear hb3 HR1
    go_wp2_with fail
    refine (HC2.out _ HB3.out).mono ?_
    rintro e w4 ⟨A2, c2, rfl, hc2, hm2, hr2, hb4⟩
    rw [outF_len] at hr2 hc2 ⊢
    have HB4 := Lib.hid (below_two HB3.out hb4 HB3.out.size)
    have HR1' := Lib.hid (HR3.out.mono IaC.mono (S' := Old w4) (fun b q => Nat.lt_of_lt_of_le q hb4.size) (keepOn_below hb4 fun _ q => q))
    have HR2' := Lib.hid (hr2.mono IaC.mono (S' := Old w4) (fun b q => q.2) (KeepOn.refl _ _))
    have HBW := Lib.hid (below_two HBEL.out HB4.out hszr)
    have HRX := Lib.hid (HR.out.mono BoC.mono (S' := Old w4) (fun b q => Nat.lt_of_lt_of_le q HBW.out.size) (keepOn_below HBW.out fun _ q => q))
    unfold maxLen at hm2
    clear hr2 hb4 HC2 HR3 hcat1 hcat2 hcat3 hcat4 m1 m2 m3 m4
    go_wp2
    go_loopg [70] (xa.length + 1) (fun g v70 wq => TiB w4 xa g v70 wq)
    case atStart => exact ⟨0, Nat.zero_le _, by omega, rfl, Below.refl _ _⟩
    case round =>
      rename World => wq
      obtain ⟨j, hj, hgj, rfl, hbq⟩ := hrel
      have hsq := hbq.size
      have hbo := below_two HBW.out hbq HBW.out.size
      by_cases hlt : j < xa.length
      case neg =>
        have HK := Lib.hid (known28_any wq (HW.out.below hbo))
        have HBO := Lib.hid hbo
        clear hbo hbq
        go_wp2_with fail
        refine HK.out.mono ?_
        rintro e w7 ⟨rfl, hb7⟩
        have hb8 := below_two HBO.out hb7 HBO.out.size
        have HB8 := Lib.hid hb8
        clear hb7 hb8
        go_wp2
        go_ret
        exact ⟨rfl, HB8.out⟩
      have HBQ := Lib.hid hbq
      have HRB := Lib.hid (HRX.out.mono BoC.mono (S' := Old wq) (fun b q => Nat.lt_of_lt_of_le q hsq) (keepOn_below hbq fun _ q => q))
      obtain ⟨bd, od, xd, hA1, hSd, hxd, yd⟩ := iaAt (HR1'.out.mono IaC.mono (S' := Old wq) (fun b q => Nat.lt_of_lt_of_le q hsq) (keepOn_below hbq fun _ q => q)) hlt
      obtain ⟨bh, oh, xh, hA2, hSh, hxh, yh⟩ := iaAt (HR2'.out.mono IaC.mono (S' := Old wq) (fun b q => Nat.lt_of_lt_of_le q hsq) (keepOn_below hbq fun _ q => q)) hlt
      rw [del_get hlt] at hxd
      rw [hol_get hlt] at hxh
      cases hxd
      cases hxh
      subst hA1
      subst hA2
      have hbd : bd < wq.heap.size := hSd
      have hbh : bh < wq.heap.size := hSh
      have hi1 : (j : Int) < (xa.length : Int) := by omega
      have hi2 : (xa.length : Int) ≤ (c1 : Int) := by omega
      have hi3 : (xa.length : Int) ≤ (c2 : Int) := by omega
      have YD := Lib.hid yd
      have YH := Lib.hid yh
      have hge : decide ((n : Int) ≤ (j : Int)) = decide (n ≤ j) := by congr 1; exact propext ⟨fun h => by omega, fun h => by omega⟩
      have hw1 : IntKind.i64.wrap ((j : Int) - (n : Int)) = (j : Int) - (n : Int) := IntWalk.i64_in _ (by omega)
      clear hbq hbo hSd hSh yd yh
      go_wp2
      go_loopg [13, 14, 15] (min (j + 1) (n + 1) + 1) (fun g v13 v14 v15 wz => TiC wq xa j n g v13 v14 v15 wz)
      case atStart => exact ⟨0, (j : Int), Nat.zero_le _, by omega, by omega, by simp [allD], rfl, rfl, rfl⟩
      case round =>
        rename World => wz
        obtain ⟨s, z, hs, hgs, hz, rfl, rfl, rfl, rfl⟩ := hrel
        by_cases hc : s ≤ j ∧ s ≤ n
        case pos =>
          obtain ⟨t, ht⟩ : ∃ t : Nat, j - s = t := ⟨_, rfl⟩
          obtain rfl : z = (t : Int) := by omega
          obtain ⟨b, o, x, hA, hSb, hx, y0⟩ := boAt HRB.out (show t < xa.length by omega)
          have hbk : b < wz.heap.size := hSb
          have hti : (t : Int) < (xa.length : Int) := by omega
          have htn2 : (j : Int) - (n : Int) ≤ (t : Int) := by omega
          have hgx : xa.getD (j - s) false = x := by rw [ht, List.getD_eq_getElem?_getD, hx]; rfl
          have HP := Lib.hid (show (decide (n ≤ j) && allD xa j (s + 1)) = ((decide (n ≤ j) && allD xa j s) && x) by rw [allD_succ, hgx, Bool.and_assoc])
          have HO := Lib.hid (show anyD xa j (s + 1) = (anyD xa j s || x) by rw [anyD_succ, hgx])
          subst hA
          have hs1 : s + 1 ≤ min (j + 1) (n + 1) := by omega
          have hzz : (t : Int) - 1 = (j : Int) - ((s + 1 : Nat) : Int) := by omega
          have hwz : IntKind.i64.wrap ((t : Int) - 1) = (t : Int) - 1 := IntWalk.i64_in _ (by omega)
          have HZ := Lib.hid hzz
          clear hz hx hgx hSb ht hzz hge
          generalize (decide (n ≤ j) && allD xa j s) = p at *
          generalize anyD xa j s = q at *
          cases p <;> cases q <;> cases x
          all_goals
            go_wp2
            go_roundg (min (j + 1) (n + 1) - s)
            case measure => omega
            case rel => exact ⟨s + 1, (t : Int) - 1, hs1, by omega, HZ.out, by rw [HP.out]; rfl, by rw [HO.out]; rfl, by first | rfl | go_num, rfl⟩
        have hsm : s = min (j + 1) (n + 1) := by omega
        have hyd := YD.out
        have hyh := YH.out
        rw [← hsm] at hyd hyh
        have HSM := Lib.hid hsm
        clear hsm hge
        generalize (decide (n ≤ j) && allD xa j s) = p at *
        generalize anyD xa j s = q at *
        by_cases h0 : 0 ≤ z
        · have h1 : ¬ (j : Int) - (n : Int) ≤ z := by omega
          have d0 : decide (0 ≤ z) = true := decide_eq_true h0
          have d1 : decide ((j : Int) - (n : Int) ≤ z) = false := decide_eq_false h1
          clear hc hz h0 h1 hs hgs
          cases p <;> cases q <;> simp only [bitP_true, bitP_false] at hyd hyh
          all_goals
            go_wp2
            go_roundg (xa.length - j)
            case measure => omega
            case rel => exact ⟨j + 1, by omega, by omega, by go_num, HBQ.out⟩
        · have d0 : decide (0 ≤ z) = false := decide_eq_false h0
          clear hc hz h0 hs hgs
          cases p <;> cases q <;> simp only [bitP_true, bitP_false] at hyd hyh
          all_goals
            go_wp2
            go_roundg (xa.length - j)
            case measure => omega
            case rel => exact ⟨j + 1, by omega, by omega, by go_num, HBQ.out⟩
end Go.Proofs.YtcikenlflcofbaaDoor
