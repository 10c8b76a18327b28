/-
  The law RecorderReplays: for every device and every list of steps the call returns true.
-/
import Derived.Test.YtcoablindoknpaaDoorRepM
import Derived.Test.YtcoablindoknpaaDoorKnown
namespace Go.Proofs.YtcoablindoknpaaDoor
open Go.RowKit

def RyW (w : World) (ss : List (List Bool)) (x i : Value) (wr : World) : Prop := ∃ k : Nat, k ≤ ss.length ∧ i = .int .i64 k ∧ x = .int .i64 (wdS ss k) ∧ (∀ j, j < k → (stAt ss j).length ≤ 10) ∧ wr = w
theorem own_ltR {w : World} {base : Nat} {e : TypeId} {size n : Nat} {v : Value} {xs : List Value} (h : w.ownsRow base e size v n xs) {b : Nat} (hb : w.heap.size ≤ b) : v.ownBlock ≠ some b := by
  intro he
  have := (h.lt b he).2
  omega
theorem good_mkR {t d g q : Int} {v : Bool} (h1 : 0 ≤ t ∧ t ≤ 1000000000) (h2 : 0 ≤ d ∧ d ≤ 999) (h3 : 0 ≤ g ∧ g ≤ 999) (h4 : 0 ≤ q ∧ q ≤ 9) : goodB ⟨t, d, g, v, q⟩ = true := by
  simp [goodB, withinB]
  exact ⟨h1, h2, h3, h4⟩
/-- Behind k steps: the list, the state, the states. -/
structure RyS (w : World) (d : Int) (wd : Nat) (ps : List (List Bool)) (k : Nat) (vl vb vs : Value) (W : World) : Prop where
  lst : ∃ A c, vl = .slice A (repL d wd ps k).length c ∧ (repL d wd ps k).length ≤ c ∧ c ≤ maxLen ∧ Rws EvC 5 W W.heap.size A (repL d wd ps k).length (repL d wd ps k) ∧ NotOwn vs A (repL d wd ps k).length
  bef : ∃ A c, vb = .slice A wd c ∧ Rws BoolC 1 W W.heap.size A wd (prevS wd ps k) ∧ NotOwn vs A wd
  sts : ∃ us : List Value, W.ownsRow w.heap.size 44 1 vs k us ∧ ∀ j, j < k → ∃ A c, us[j]? = some (.slice A wd c) ∧ wd ≤ c ∧ Rws BoolC 1 W W.heap.size A wd (stAt ps j) ∧ NotOwn vs A wd
  bel : Below w.heap.size w W
def RyR (w : World) (d : Int) (wd : Nat) (ps : List (List Bool)) (vl vb vs i : Value) (W : World) : Prop := ∃ k : Nat, k ≤ ps.length ∧ i = .int .i64 k ∧ RyS w d wd ps k vl vb vs W
theorem RyS.below {w : World} {d : Int} {wd : Nat} {ps : List (List Bool)} {k : Nat} {vl vb vs : Value} {W W' : World} (h : RyS w d wd ps k vl vb vs W) (hb : Below W.heap.size W W') : RyS w d wd ps k vl vb vs W' := by
  obtain ⟨⟨A1, c1, e1, g1, g2, r1, n1⟩, ⟨A2, c2, e2, r2, n2⟩, ⟨us, ho, hu⟩, hbel⟩ := h
  refine ⟨⟨A1, c1, e1, g1, g2, r1.mono EvC.mono hb.size hb, n1⟩, ⟨A2, c2, e2, r2.mono BoolC.mono hb.size hb, n2⟩, ⟨us, own_below ho hb (Nat.le_refl _), fun j hj => ?_⟩, hbel.trans (hb.mono hbel.size)⟩
  obtain ⟨A, c, e, g, r, n⟩ := hu j hj
  exact ⟨A, c, e, g, r.mono BoolC.mono hb.size hb, n⟩

set_option maxRecDepth 100000 in
set_option maxHeartbeats 4000000 in
theorem replays_any (d : Int) (A : Option Addr) (c B : Nat) (ss : List (List Bool)) (w : World) (T : Tab w) (hB : B ≤ w.heap.size) (hr : Rws (SliceOf BoolC 1) 1 w B A ss.length ss) (hm : ss.length ≤ maxLen) :
    Calls Tryd.prog 10 #[.int .i64 d, .slice A ss.length c] w (RetBool true w) := by
  have HT := Lib.hid T
  have HR := Lib.hid hr
  clear T hr
  unfold maxLen at hm
  have CK := known_any w HT.out
  have HCK := Lib.hid CK
  clear CK
  by_cases hd0 : d < 0
  · go_enter Tryd.func10, Tryd.ntmps10
    go_wp2_with fail
    refine HCK.out.mono ?_
    rintro e w3 ⟨rfl, hb3⟩
    go_wp2
    go_ret
    exact ⟨rfl, hb3⟩
  by_cases hd1 : 999 < d
  · go_enter Tryd.func10, Tryd.ntmps10
    go_wp2_with fail
    refine HCK.out.mono ?_
    rintro e w3 ⟨rfl, hb3⟩
    go_wp2
    go_ret
    exact ⟨rfl, hb3⟩
  by_cases hl : 20 < ss.length
  · have hl' : (20 : Int) < (ss.length : Int) := by omega
    go_enter Tryd.func10, Tryd.ntmps10
    go_wp2_with fail
    refine HCK.out.mono ?_
    rintro e w3 ⟨rfl, hb3⟩
    go_wp2
    go_ret
    exact ⟨rfl, hb3⟩
  have hl' : ¬ (20 : Int) < (ss.length : Int) := by omega
  go_enter Tryd.func10, Tryd.ntmps10
  go_wp2
  go_loopw [5, 33] (RyW w ss) (fun _ i _ => ss.length - (intOf i).toNat)
  case atStart => exact ⟨0, Nat.zero_le _, rfl, rfl, (fun j h => absurd h (Nat.not_lt_zero _)), rfl⟩
  case round =>
    obtain ⟨k, hk, rfl, rfl, hall, hww⟩ := hrel
    have hww' := hww.symm
    clear hww
    subst hww'
    have HALL := Lib.hid hall
    have hwl := wdS_le k hall
    clear hall
    by_cases hlt : k < ss.length
    · obtain ⟨b, o, x, A1, c1, rfl, hbB, hx, hc1, hm1, hr1, hcell⟩ := HR.out.boolsAt hlt
      have hst : stAt ss k = x := by simp [stAt, hx]
      unfold maxLen at hm1
      have hwS : wdS ss (k + 1) = max (wdS ss k) x.length := by rw [wdS, hst]
      have HWS := Lib.hid hwS
      have HST := Lib.hid hst
      generalize wdS ss k = wk at *
      clear hx hst hwS hr1
      by_cases h10 : 10 < x.length
      · have e1 : (10 : Int) < (x.length : Int) := by omega
        go_wp2_with fail
        refine HCK.out.mono ?_
        rintro e w3 ⟨rfl, hb3⟩
        go_wp2
        go_ret
        exact ⟨rfl, hb3⟩
      · have e1 : ¬ (10 : Int) < (x.length : Int) := by omega
        go_wp2
        go_roundw
        case rel =>
          refine ⟨k + 1, by omega, by go_num, by rw [HWS.out]; congr 1; omega, fun j hj => ?_, rfl⟩
          by_cases e : j = k
          · rw [e, HST.out]; omega
          · exact HALL.out j (by omega)
        case measure => simp [intOf]; omega
    · obtain rfl : k = ss.length := by omega
      have hge := wdS_ge ss ss.length
      generalize wdS ss ss.length = wd at *
      obtain ⟨ps, hps⟩ : ∃ ps, ps = ss.map (padB wd) := ⟨_, rfl⟩
      have HPL := Lib.hid (show ps.length = ss.length by rw [hps]; simp)
      have HPA := Lib.hid (show ∀ k x, ss[k]? = some x → stAt ps k = padB wd x by intro k x hx; rw [hps]; simp [stAt, hx])
      have HPW := Lib.hid (show ∀ k, k < ps.length → (stAt ps k).length = wd by
        intro k hk
        have hk' : k < ss.length := by rw [hps] at hk; simpa using hk
        have hx := List.getElem?_eq_getElem hk'
        rw [HPA.out k _ hx]
        have hg := hge k hk'
        refine padB_len ?_
        simpa [stAt, hx] using hg)
      have HWD := Lib.hid hge
      clear hps hge
      obtain ⟨ib, hib, hzb0, hzb1, hzb2⟩ := info_parts infoBool
      obtain ⟨i1, hi1, hz10, hz11, hz12⟩ := info_parts infoBools
      go_wp2_with (at_make; refine wpList_make_full _ rfl _ _ 44 rfl w.heap.size 4 ib _ 1 Tryd.underlying44 hib hzb0 hzb1 .i64 .i64 _ _ wd rfl rfl rfl rfl (by rw [hzb2]; omega) (by unfold maxLen; omega) (Nat.le_refl _) ?_; intro w0 hown0 hgrow0)
      have hbel0 : Below w.heap.size w w0 := (Below.refl _ _).grown hgrow0 (Nat.le_refl _) (fun k hk => by cases hk)
      rw [made_bools] at hown0
      have hrw0 : Rws BoolC 1 w0 w0.heap.size (some ⟨w.heap.size, 0, Option.none⟩) wd (List.replicate wd false) := Rws.of_own (f := fun b => [Value.bool b]) (by rw [show (List.replicate wd false).flatMap (fun b => [Value.bool b]) = boolCells (List.replicate wd false) from (List.map_eq_flatMap ..).symm]; exact hown0) (by simp) (fun _ _ => rfl) (fun _ _ => rfl)
      have S0 : RyS w d wd ps 0 (.slice Option.none 0 0) (.slice (some ⟨w.heap.size, 0, Option.none⟩) wd wd) (.slice Option.none 0 0) w0 :=
        ⟨⟨Option.none, 0, rfl, Nat.le_refl _, Nat.zero_le _, rws_none _ _ _ _ _, (fun _ _ h => by cases h)⟩, ⟨_, _, rfl, hrw0, fun _ _ _ _ => by simp [Value.ownBlock]⟩, ⟨[], World.ownsRow_nil _ _ _ _, fun j h => absurd h (Nat.not_lt_zero _)⟩, hbel0⟩
      have HS0 := Lib.hid S0
      clear hown0 hgrow0 hrw0 S0
      go_wp2
      go_loopw [8, 9, 10, 50] (RyR w d wd ps) (fun _ _ _ i _ => ss.length - (intOf i).toNat)
      case atStart => exact ⟨0, Nat.zero_le _, rfl, HS0.out⟩
      case round =>
        clear HS0 hbel0
        obtain ⟨k, hk, rfl, hS⟩ := hrel
        rw [HPL.out] at hk
        have HS := Lib.hid hS
        clear hS
        by_cases hlt : k < ss.length
        · obtain ⟨b, o, x, A1, c1, rfl, hbB, hx, hc1, hm1, hr1, hcell0⟩ := HR.out.boolsAt hlt
          have hbw := HS.out.bel
          have hsw := hbw.size
          obtain ⟨us0, ho0, -⟩ := HS.out.sts
          obtain ⟨As, csz, rfl, -, -⟩ := own_shape ho0
          have HNO := Lib.hid (fun b (hb : wr.heap.size ≤ b) => own_ltR ho0 hb)
          clear ho0
          have hcell := (hbw.cell (p := ⟨b, o + k, Option.none⟩) (Nat.lt_of_lt_of_le hbB hB)).trans hcell0
          have hxw : x.length ≤ wd := by have := HWD.out k hlt; simpa [stAt, hx] using this
          have HST := Lib.hid (HPA.out k x hx)
          have HX1 := Lib.hid (hr1.mono BoolC.mono (Nat.le_refl _) (hbw.mono hB))
          have hP := padB_len hxw
          obtain ⟨Al, cl, rfl, gl, ml, rl, nl⟩ := HS.out.lst
          obtain ⟨Ab, cb, rfl, rb, nb⟩ := HS.out.bef
          unfold maxLen at hm1
          clear hx hr1 hcell0 rl nl rb nb
          go_upto_region 18 with (at_make; refine wpList_make_full _ rfl _ _ 44 rfl wr.heap.size 4 ib _ 1 Tryd.underlying44 hib hzb0 hzb1 .i64 .i64 _ _ wd rfl rfl rfl rfl (by rw [hzb2]; omega) (by unfold maxLen; omega) (Nat.le_refl _) ?_; intro w1 hown1 hgrow1)
          have hbel1 : Below wr.heap.size wr w1 := (Below.refl _ _).grown hgrow1 (Nat.le_refl _) (fun k hk => by cases hk)
          rw [made_bools] at hown1
          have hh1 := own_heap hown1
          have HX2 := Lib.hid (HX1.out.mono BoolC.mono (Nat.le_refl _) (hbel1.mono (by omega)))
          clear hown1 hgrow1
          have HH1 := Lib.hid hh1
          have hszb : (Tryd.prog.info? 4).map (·.size) = some 1 := by kernel_rfl
          clear hh1
          go_upto_region 19 with (refine wpList_copy_splice (o := ⟨some 59, _, _, _, _, _⟩) rfl _ _ 44 44 rfl 4 Tryd.underlying44 hszb _ _ _ _ _ _ rfl rfl wr.heap.size 0 _ 4 HH1.out (boolCells x) (by simp only [boolCells, List.length_map]; exact (Nat.min_eq_left hxw).symm) (fun h => ⟨rfl, src_bools HX2.out (by simpa [boolCells] using h)⟩) (by simp [boolCells]; omega) (boolCells_one x) wr.heap.size wr hbel1 (Nat.le_refl _) ?_; intro w2 hh2 hbel2)
          have hh2' := hh2.out
          rw [splice_pad] at hh2'
          have hh2s := (Array.getElem?_eq_some_iff.1 hh2').1
          have hr2 := rws_bools hh2'
          rw [hP] at hr2
          have S2 := HS.out.below hbel2
          obtain ⟨Al', cl', hle, gl', ml', rl, nl⟩ := S2.lst
          injection hle with hA hN hC
          subst hA hC
          obtain ⟨Ab', cb', hbe, rb, nb⟩ := S2.bef
          injection hbe with hA hN2 hC
          subst hA hC
          have hpl : (prevS wd ps k).length = wd := rb.1
          have CC := changes_any k d 0 Ab (some ⟨wr.heap.size, 0, Option.none⟩) cb wd w2.heap.size (prevS wd ps k) (padB wd x) w2 (Nat.le_refl _) (by rw [hpl]; exact rb) (by rw [hP]; exact hr2) (by unfold maxLen; omega) (by unfold maxLen; omega)
          have hch : changesS k d 0 (prevS wd ps k) (padB wd x) = chS k d 0 (prevS wd ps k) (stAt ps k) wd := by
            unfold changesS
            rw [if_neg, hP, HST.out]
            have hg := good_mkR (t := (k : Int)) (d := d) (g := 0) (q := 0) (v := false) ⟨by omega, by omega⟩ ⟨hd0, hd1⟩ ⟨by omega, by omega⟩ ⟨by omega, by omega⟩
            rw [hg, hP]
            simp
            omega
          rw [hch, hpl, hP] at CC
          have hc10 := chS_len k d 0 (prevS wd ps k) (stAt ps k) wd
          have hl10 := repL_len d wd ps k
          have hkw : k * wd ≤ 20 * 10 := Nat.mul_le_mul (by omega) hwl
          have HRM := Lib.hid (rep_merge d wd ps k)
          generalize chS k d 0 (prevS wd ps k) (stAt ps k) wd = ch at *
          generalize repL d wd ps k = L at *
          have HCC := Lib.hid CC
          have HRL := Lib.hid rl
          have HR2 := Lib.hid hr2
          clear CC hch hh2 hh2' rl rb nl nb hr2 HH1 hP hpl
          go_wp2_with fail
          refine HCC.out.mono ?_
          rintro e w3 ⟨Ac, cc, rfl, hcc, hmc, hownc, hb3⟩
          have R2 := rws_two (t := 22) (w := w3) (B := w3.heap.size) (Nat.le_refl _) (rws_of_ev hownc rfl) hcc hmc (HRL.out.mono EvC.mono hb3.size hb3) gl ml
          have CM := merge_any _ 2 _ [ch, L] _ (by simp) R2 (by simp) (by simp; omega)
          rw [show [ch, L].flatten = ch ++ L by simp, HRM.out] at CM
          simp only [List.length_cons, List.length_nil, Nat.zero_add, Nat.reduceAdd] at CM
          have HCM := Lib.hid CM
          have hbx := box_below w3 (Obj.cells #[.slice Ac ch.length cc, .slice Al L.length cl] 22)
          clear CM R2 hownc HCC
          go_wp2_with fail
          refine HCM.out.mono ?_
          rintro e w4 ⟨Am, cm, rfl, hcm, hmm, hAm, hNm, hrm, hb4⟩
          have hb34 := hbx.trans (hb4.mono hbx.size)
          have hb24 := hb3.trans (hb34.mono hb3.size)
          have S4 := S2.below hb24
          obtain ⟨us, hous, huj⟩ := S4.sts
          have HR4 := Lib.hid (HR2.out.mono BoolC.mono hb24.size hb24)
          have HO := Lib.hid hous
          have hbw4 := S4.bel
          have hs4 := hbw4.size
          have hbig : wr.heap.size < w4.heap.size := by
            have h1 := hbel2.size
            have h2 := hb24.size
            omega
          have hone : ∀ u ∈ (#[Value.slice (some ⟨wr.heap.size, 0, Option.none⟩) wd wd] : Array Value).toList, u.oneCell' = true := by simp [Value.oneCell']
          have m1 : k + 1 ≤ maxLen := by unfold maxLen; omega
          have m2 : (k + 1) * 24 ≤ 140737488355328 := by omega
          have HUJ := Lib.hid huj
          have HRM2 := Lib.hid hrm
          clear hous huj hrm
          go_wp2_with (at_builtin; refine wpList_push_own (o := ⟨some 72, _, _, _, _, _⟩) _ _ 55 rfl rfl Tryd.underlying55 hi1 hz10 hz11 hz12 rfl (by decide) rfl HO.out hbw4 _ rfl rfl rfl hone m2 m1 hs4 ?_; intro v5 w5 hown5 hbel5 hsz5 hoth5 hnew5)
          go_roundw
          case rel =>
            have hwb : wr.heap.size ≤ w3.heap.size := by have h1 := hbel2.size; have h2 := hb3.size; omega
            have hno : ∀ b, wr.heap.size ≤ b → b < w4.heap.size → v5.ownBlock ≠ some b := fun b h1 h2 => hnew5 b h2 (HNO.out b h1)
            have hAB : ∀ b o, Am = some ⟨b, o, Option.none⟩ → wr.heap.size ≤ b := fun b o h => by have := hNm b o h; simp only [World.size_alloc] at this; omega
            refine ⟨k + 1, by rw [HPL.out]; omega, by go_num, ⟨Am, cm, rfl, hcm, hmm, rws_other evC_any HRM2.out hsz5 (fun b o h hb _ => hoth5 b hb (HNO.out b (hAB b o h))), fun b o h hn => ?_⟩, ⟨some ⟨wr.heap.size, 0, Option.none⟩, wd, rfl, ?_, fun b o h _ => ?_⟩, ⟨us ++ [.slice (some ⟨wr.heap.size, 0, Option.none⟩) wd wd], hown5, fun j hj => ?_⟩, hbel5⟩
            · subst h
              exact hno b (hAB b o rfl) (rws_lt HRM2.out hn)
            · show Rws BoolC 1 w5 w5.heap.size _ wd (stAt ps k)
              rw [HST.out]
              exact rws_other boolC_any HR4.out hsz5 (fun b o h hb _ => by injection h with h; injection h with h; subst h; exact hoth5 _ hbig (HNO.out _ (Nat.le_refl _)))
            · injection h with h
              injection h with h
              subst h
              exact hno _ (Nat.le_refl _) hbig
            · have hul : us.length = k := by have := HO.out.1; simpa using this
              by_cases e : j < k
              · obtain ⟨Aj, cj, e1, e2, e3, e4⟩ := HUJ.out j e
                refine ⟨Aj, cj, by rw [List.getElem?_append_left (by omega)]; exact e1, e2, rws_other boolC_any e3 hsz5 (fun b o h hb hn => hoth5 b hb (e4 b o h hn)), fun b o h hn => ?_⟩
                subst h
                exact hnew5 b (rws_lt e3 hn) (e4 b o rfl hn)
              · have hjk : j = k := by omega
                subst hjk
                refine ⟨some ⟨wr.heap.size, 0, Option.none⟩, wd, by rw [List.getElem?_append_right (by omega), hul, Nat.sub_self]; rfl, Nat.le_refl _, ?_, fun b o h _ => ?_⟩
                · rw [HST.out]
                  exact rws_other boolC_any HR4.out hsz5 (fun b o h hb _ => by injection h with h; injection h with h; subst h; exact hoth5 _ hbig (HNO.out _ (Nat.le_refl _)))
                · injection h with h
                  injection h with h
                  subst h
                  exact hno _ (Nat.le_refl _) hbig
          case measure => simp [intOf]; omega
        · obtain rfl : k = ss.length := by omega
          obtain ⟨Al, cl, rfl, gl, ml, rl, -⟩ := HS.out.lst
          obtain ⟨us, hous, huj⟩ := HS.out.sts
          obtain ⟨As, csz, rfl, -, -⟩ := own_shape hous
          have hbw := HS.out.bel
          have hsw := hbw.size
          have hl10 := repL_len d wd ps ss.length
          have hkw : ss.length * wd ≤ 20 * 10 := Nat.mul_le_mul (by omega) hwl
          have HLR := Lib.hid (fun sig i hs hi => last_replay (d := d) HPW.out (sig := sig) (i := i) hs hi ss.length)
          generalize repL d wd ps ss.length = L at *
          have HRL := Lib.hid rl
          have HUJ := Lib.hid huj
          have HOU := Lib.hid hous
          clear rl huj hous HS
          generalize wr = w7 at *
          go_wp2
          go_loopw [76] (fun x W => ∃ i : Nat, i ≤ ss.length ∧ x = .int .i64 i ∧ Below w7.heap.size w7 W) (fun x _ => ss.length - (intOf x).toNat)
          case atStart => exact ⟨0, Nat.zero_le _, rfl, Below.refl _ _⟩
          case round =>
            obtain ⟨i, hi, rfl, hb9⟩ := hrel
            have hw9 := hbw.trans (hb9.mono hsw)
            by_cases hin : i < ss.length
            · obtain ⟨Aj, cj, hus, hwc, hrj, -⟩ := HUJ.out i hin
              obtain ⟨g, cap, hv, _, hgl⟩ := HOU.out.form (by omega)
              obtain rfl : As = some ⟨g, 0, Option.none⟩ := by injection hv
              have hcu := HOU.out.cells (g := g) rfl i _ hus
              rw [Addr.add_mid, Nat.zero_add] at hcu
              have hcell := (hb9.cell (p := ⟨g, i, Option.none⟩) hgl).trans hcu
              have HRJ := Lib.hid hrj
              clear hcu hus hv hrj
              go_wp2
              go_loopw [83] (fun x W => ∃ k : Nat, k ≤ wd ∧ x = .int .i64 k ∧ Below w7.heap.size w7 W) (fun x _ => wd - (intOf x).toNat)
              case atStart => exact ⟨0, Nat.zero_le _, rfl, hb9⟩
              case round =>
                clear hcell
                obtain ⟨k, hk, rfl, hb8⟩ := hrel
                by_cases hkw : k < wd
                · obtain ⟨b2, o2, sb, rfl, hb2, hsb, hcb⟩ := HRJ.out.boolAt hkw
                  have CL := last_any Al cl w7.heap.size L d k i wr hb8.size (HRL.out.mono EvC.mono (Nat.le_refl _) hb8) (by omega)
                  have hE := HLR.out k i hkw (by rw [HPL.out]; exact hin) hin (by rw [HPL.out]; exact Nat.le_refl _)
                  have hsb' : oldB (stAt ps i) k = sb := by simp [oldB, hsb]
                  rw [hsb'] at hE
                  generalize lastP L d k i = p at *
                  obtain ⟨p1, p2⟩ := p
                  have HCL := Lib.hid CL
                  clear CL hsb hsb'
                  go_wp2_with fail
                  refine HCL.out.mono ?_
                  rintro e w6 ⟨rfl, hb6⟩
                  have hb76 := hb8.trans (hb6.mono hb8.size)
                  have hcb6 := (hb76.cell (p := ⟨b2, o2 + k, Option.none⟩) hb2).trans hcb
                  cases p1 <;> cases p2 <;> cases sb <;> (first | (exfalso; revert hE; decide) | (go_wp2; go_roundw; (case rel => exact ⟨k + 1, by omega, by go_num, hb76⟩); (case measure => simp [intOf]; omega)))
                · go_wp2
                  go_roundw
                  case rel => exact ⟨i + 1, by omega, by go_num, hb8⟩
                  case measure => simp [intOf]; omega
            · go_wp2_with fail
              refine (known_any _ (HT.out.below hw9)).mono ?_
              rintro e w6 ⟨rfl, hb6⟩
              go_wp2
              go_ret
              exact ⟨rfl, hw9.trans (hb6.mono hw9.size)⟩
end Go.Proofs.YtcoablindoknpaaDoor
