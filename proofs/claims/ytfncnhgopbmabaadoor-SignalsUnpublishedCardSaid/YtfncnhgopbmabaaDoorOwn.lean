/-
  The first error of a relay's names, data sets and publications: 'own' of the program.
-/
import Derived.Test.YtfncnhgopbmabaaDoorDup
import Derived.Test.YtfncnhgopbmabaaDoorTextsB
namespace Go.Proofs.YtfncnhgopbmabaaDoor
open Go.RowKit

attribute [local go_sem ↓] loadRelay_fold storeRelay_fold
attribute [local go_sem] loadRelay_row storeRelay_new

def sigE (outs sigs : List ByteArray) (j : Nat) : Int := match sigs[j]? with
  | Option.none => 0
  | some x => if seen outs outs.length x = false then 9 else if seen sigs j x then 8 else 0
def setE (outs sigs : List ByteArray) : Int := firstNZ (sigE outs sigs) sigs.length
def setK (outs : List ByteArray) (sets : List (ByteArray × List ByteArray)) (k : Nat) : Int := match sets[k]? with
  | Option.none => 0
  | some d => setE outs d.2
def setsE (outs : List ByteArray) (sets : List (ByteArray × List ByteArray)) : Int := firstNZ (setK outs sets) sets.length
def pubK (r : RelayM) (k : Nat) : Int := match r.pubs[k]? with
  | Option.none => 0
  | some p => if idx (fun d => same d.1 p) r.sets < 0 then 9 else 0
def pubsE (r : RelayM) : Int := firstNZ (pubK r) r.pubs.length
def ownE (r : RelayM) : Int := if dupB (r.outputs ++ r.inputs) then 8 else if setsE r.outputs r.sets ≠ 0 then setsE r.outputs r.sets else pubsE r
theorem sigE_9 {outs sigs : List ByteArray} {j : Nat} {x : ByteArray} (hx : sigs[j]? = some x) (h : seen outs outs.length x = false) : sigE outs sigs j = 9 := by simp [sigE, hx, h]
theorem sigE_8 {outs sigs : List ByteArray} {j : Nat} {x : ByteArray} (hx : sigs[j]? = some x) (h : seen outs outs.length x = true) (h2 : seen sigs j x = true) : sigE outs sigs j = 8 := by simp [sigE, hx, h, h2]
theorem sigE_0 {outs sigs : List ByteArray} {j : Nat} {x : ByteArray} (hx : sigs[j]? = some x) (h : seen outs outs.length x = true) (h2 : seen sigs j x = false) : sigE outs sigs j = 0 := by simp [sigE, hx, h, h2]
theorem setK_eq {outs : List ByteArray} {sets : List (ByteArray × List ByteArray)} {k : Nat} {d : ByteArray × List ByteArray} (h : sets[k]? = some d) : setK outs sets k = setE outs d.2 := by simp [setK, h]
theorem setK_bad {outs : List ByteArray} {sets : List (ByteArray × List ByteArray)} {k j : Nat} {d : ByteArray × List ByteArray} {n : Int} (h : sets[k]? = some d) (hz : AllZero (sigE outs d.2) j) (hj : j < d.2.length) (hn : sigE outs d.2 j = n) (h0 : n ≠ 0) : setK outs sets k = n := by
  rw [setK_eq h, setE, firstNZ_found hz (by rw [hn]; exact h0) hj, hn]
theorem setK_good {outs : List ByteArray} {sets : List (ByteArray × List ByteArray)} {k : Nat} {d : ByteArray × List ByteArray} (h : sets[k]? = some d) (hz : AllZero (sigE outs d.2) d.2.length) : setK outs sets k = 0 := by
  rw [setK_eq h, setE, firstNZ_zero hz]
theorem own_dup {r : RelayM} (h : dupB (r.outputs ++ r.inputs) = true) : ownE r = 8 := by simp [ownE, h]
theorem own_set {r : RelayM} (h : dupB (r.outputs ++ r.inputs) = false) {k : Nat} (hz : AllZero (setK r.outputs r.sets) k) (hk : k < r.sets.length) {n : Int} (hn : setK r.outputs r.sets k = n) (h0 : n ≠ 0) : ownE r = n := by
  have : setsE r.outputs r.sets = n := by rw [setsE, firstNZ_found hz (by rw [hn]; exact h0) hk, hn]
  simp [ownE, h, this, h0]
theorem own_pub {r : RelayM} (h : dupB (r.outputs ++ r.inputs) = false) (hs : AllZero (setK r.outputs r.sets) r.sets.length) {k : Nat} (hz : AllZero (pubK r) k) (hk : k < r.pubs.length) {n : Int} (hn : pubK r k = n) (h0 : n ≠ 0) : ownE r = n := by
  have e1 : setsE r.outputs r.sets = 0 := firstNZ_zero hs
  have e2 : pubsE r = n := by rw [pubsE, firstNZ_found hz (by rw [hn]; exact h0) hk, hn]
  simp [ownE, h, e1, e2]
theorem own_ok {r : RelayM} (h : dupB (r.outputs ++ r.inputs) = false) (hs : AllZero (setK r.outputs r.sets) r.sets.length) (hz : AllZero (pubK r) r.pubs.length) : ownE r = 0 := by
  have e1 : setsE r.outputs r.sets = 0 := firstNZ_zero hs
  have e2 : pubsE r = 0 := firstNZ_zero hz
  simp [ownE, h, e1, e2]

/-- Relations of the loops: names put into the map in block b; sets; signals; publications. -/
def KnR (b : Nat) (W1 : World) (xs : List ByteArray) (i : Value) (wr : World) : Prop :=
  ∃ k : Nat, k ≤ xs.length ∧ i = .int .i64 k ∧ MapS Tryd.prog 9 4 wr b k (seenF xs k) ∧ Below b W1 wr
def StR (B : Nat) (W1 : World) (outs : List ByteArray) (sets : List (ByteArray × List ByteArray)) (i : Value) (wr : World) : Prop :=
  ∃ k : Nat, k ≤ sets.length ∧ i = .int .i64 k ∧ AllZero (setK outs sets) k ∧ Below B W1 wr
def SgR (b : Nat) (W1 : World) (outs sigs : List ByteArray) (i : Value) (wr : World) : Prop :=
  ∃ k : Nat, k ≤ sigs.length ∧ i = .int .i64 k ∧ AllZero (sigE outs sigs) k ∧ MapS Tryd.prog 9 4 wr b k (seenF sigs k) ∧ Below b W1 wr
def PbR (B : Nat) (W1 : World) (r : RelayM) (i : Value) (wr : World) : Prop :=
  ∃ k : Nat, k ≤ r.pubs.length ∧ i = .int .i64 k ∧ AllZero (pubK r) k ∧ Below B W1 wr

set_option maxRecDepth 100000 in
set_option maxHeartbeats 8000000 in
theorem own_any (cs : List Value) (r : RelayM) (B : Nat) (w : World) (hB : B ≤ w.heap.size) (h : RelayC w B cs r) (hsm : r.Small) :
    Calls Tryd.prog 40 #[.agg cs.toArray] w (RetInt (ownE r) w) := by
  obtain ⟨i0, hi, hz0, hz1, hz2⟩ := info_parts infoStr
  have hbox := box_below w (Obj.cells cs.toArray 34)
  have hr0 := rowAt_of (rangeAt_box w cs 34) h.len
  have hru := hsm.rules
  have hsu := hsm.subs
  have hse := hsm.sets
  have hpu := hsm.pubs
  have hsO := outputs_sizes h
  have hsI := inputs_sizes h
  have hlO : r.outputs.length ≤ 36 := by have := fixedL_len r.kind; simp only [RelayM.outputs, List.length_append, List.length_map]; omega
  have hlI : r.inputs.length ≤ 30 := by simp only [RelayM.inputs, List.length_map]; omega
  have H := Lib.hid h
  have HSO := Lib.hid hsO
  have HSI := Lib.hid hsI
  clear h hsO hsI
  go_enter Tryd.func40, Tryd.ntmps40
  go_wp2_with fail
  refine (outputs_any cs r B _ (by simp; omega) (RelayC.mono _ _ _ _ _ _ (Nat.le_refl _) (hbox.mono hB) H.out) hru).mono ?_
  rintro e w2 ⟨A2, c2, rfl, hc2, hm2, ho2, hb2'⟩
  have hb2 := below_same (a := w.alloc (Obj.cells cs.toArray 34)) (B' := w.heap.size + 1) hb2' rfl rfl rfl rfl (by simp)
  have hr2 := rowAt_below hr0 hb2 (Nat.lt_succ_self _)
  have hw2 := hbox.trans (hb2.mono (Nat.le_succ _))
  have hs2 := hw2.size
  have hg2 : w.heap.size < w2.heap.size := by have := hb2.size; simp only [World.size_alloc] at this; omega
  have hA2 : A2 = Option.none → r.outputs.length = 0 := by
    intro e
    subst e
    rcases ho2.2 with ⟨_, h0⟩ | ⟨g, cap, cur, hv, _⟩
    · exact h0
    · cases hv
  clear hb2' hr0 hbox
  have hs2' : Src w2 1 A2 r.outputs.length (r.outputs.map .string) := Src.of_own ho2
  have C1 := fun W' (hb : Below w2.heap.size w2 W') => clone_any A2 c2 r.outputs.length (r.outputs.map .string) W' (Src.of_own (own_below ho2 hb (Nat.le_refl _))) hA2 (strs_one _) (by omega)
  have C2 := fun W' (hb : Below w2.heap.size w2 W') => inputs_any cs r B W' (by have := hb.size; omega) (RelayC.mono _ _ _ _ _ _ (Nat.le_refl _) ((hw2.trans (hb.mono hs2)).mono hB) H.out) hsu
  have hmx : r.outputs.length + r.inputs.length ≤ maxLen := by unfold maxLen; omega
  have hbx : (r.outputs.length + r.inputs.length) * 16 ≤ 140737488355328 := by omega
  have hone := strs_one r.inputs
  have C3 : ∀ (W' : World) (A' : Option Addr) (c' : Nat), W'.ownsRow w2.heap.size 9 1 (.slice A' (r.outputs.length + r.inputs.length) c') (r.outputs.length + r.inputs.length) (r.outputs.map .string ++ r.inputs.map .string) → Calls Tryd.prog 47 #[.slice A' (r.outputs.length + r.inputs.length) c'] W' (RetBool (dupB (r.outputs ++ r.inputs)) W') := fun W' A' c' hown => by
    have hl : (r.outputs ++ r.inputs).length = r.outputs.length + r.inputs.length := List.length_append
    have := repeated_any A' c' W'.heap.size (r.outputs ++ r.inputs) W' (Nat.le_refl _) (by rw [hl]; exact Rws.of_ownStr (by rw [List.map_append]; exact hown) (fun s hs => by
      rcases List.mem_append.1 hs with h1 | h1
      · exact HSO.out s h1
      · exact HSI.out s h1)) (by omega)
    rw [hl] at this
    exact this
  have HC3 := Lib.hid C3
  have HC1 := Lib.hid C1
  have HC2 := Lib.hid C2
  have HO2 := Lib.hid ho2
  clear C1 C2 C3 hs2' ho2 hA2
  go_wp2_with fail
  go_region_held3 (fun w' => rowAt w' w.heap.size 0 53 = some cs) (go_keep)
    (first
     | ((go_at_call 48; refine (HC1.out _ (below_drewN (Below.refl _ _) 1)).mono ?_; rintro e w3 ⟨A3, c3, rfl, -, -, ho3, hb3'⟩; have hb3 := below_same (a := w2) (B' := w2.heap.size) hb3' rfl rfl rfl rfl (Nat.le_refl _); have p3 := rowAt_below hr2 hb3 hg2))
     | ((go_at_call 16; refine (HC2.out _ hb3).mono ?_; rintro e w4 ⟨A4, c4, rfl, -, -, ho4, hb4⟩; have hb24 := hb3.trans (hb4.mono hb3.size); have p4 := rowAt_below hr2 hb24 hg2; have ho34 := own_base (base' := w2.heap.size) (own_below ho3 hb4 (Nat.le_refl _)) (Nat.le_refl _); have hsrc := Src.of_own ho4))
     | ((have _t := ho34; refine step_append_src _ _ 38 (by rfl) (by rfl) Tryd.underlying38 hi hz0 hz1 hz2 rfl Nat.one_pos (by rfl) ho34 hb24 (by rfl) hsrc hone hmx hbx hb24.size ?_; intro v5 w5 hown5 hbel5 hsz5; have p5 := rowAt_below hr2 hbel5 hg2; obtain ⟨A5, c5, hv5, -, -⟩ := own_shape hown5; subst hv5))
     | ((go_at_call 47; refine (HC3.out _ _ _ hown5).mono ?_; rintro e w6 ⟨rfl, hb6⟩; have hb26 := hbel5.trans (hb6.mono hbel5.size); have p6 := rowAt_below hr2 hb26 hg2)))
  have hw6 := hw2.trans (hb26.mono hs2)
  have hs6 := hw6.size
  have R6 := Lib.hid (Rws.of_ownStr (own_below HO2.out hb26 (Nat.le_refl _)) HSO.out)
  have hg6 : w.heap.size < w6.heap.size := by have := hb26.size; omega
  have hp6 := Lib.hid (of_rowAt p6).2
  clear hb3' hb3 hb4 hb24 ho3 ho4 ho34 hsrc hown5 hbel5 hb6 p3 p4 p5 HC1 HC2 HC3 HO2 hb2 hr2 hone hmx hbx
  cases hd : dupB (r.outputs ++ r.inputs) with
  | true =>
    have HD := Lib.hid hd
    clear hd
    go_wp2
    go_ret
    exact ⟨ret_int (own_dup HD.out).symm, hw6⟩
  | false =>
  have HD := Lib.hid hd
  clear hd
  have hmm := @run_makeMap Tryd.prog
  go_wp2_with fail
  clear hmm
  go_loopw [25] (KnR w6.heap.size w6 r.outputs) (fun i _ => r.outputs.length - (intOf i).toNat)
  case atStart => exact ⟨0, Nat.zero_le _, rfl, by rw [seenF_zero]; exact MapS.made Tryd.prog 9 4 w6, (Below.refl _ _).alloc (Nat.le_refl _) _⟩
  case round =>
    obtain ⟨k, hk, rfl, hmap, hbel⟩ := hrel
    by_cases hlt : k < r.outputs.length
    · obtain ⟨b, o, x, rfl, hb, hx, hs, hc⟩ := R6.out.strAt hlt
      have hc' : wr.cell? ⟨b, o + k, Option.none⟩ = some (.string x) := (hbel.cell (p := ⟨b, o + k, Option.none⟩) hb).trans hc
      have HX := Lib.hid hx
      obtain ⟨w', hup, hm', hg⟩ := hmap.store (t := 100) Tryd.underlying9 Tryd.underlying100 (by unfold maxLen; omega) hs (plainElem_bool Tryd.underlying4 true)
      have HM := Lib.hid hm'
      have HB := Lib.hid (hbel.grown hg (by have := hmap.block; omega) (fun j hj => by cases hj; exact Nat.le_refl _))
      clear hx hc hmap hm' hg p6
      go_wp2
      go_roundw
      case rel => exact ⟨k + 1, by omega, by go_num, by rw [seenF_succ HX.out]; exact HM.out, HB.out⟩
      case measure => simp [intOf]; omega
    · obtain rfl : k = r.outputs.length := by omega
      obtain ⟨W7, rfl⟩ : ∃ W7 : World, W7 = wr := ⟨_, rfl⟩
      have hm1 := hmap.block
      have HM := Lib.hid hmap
      have hw7 := hw6.trans (hbel.mono hs6)
      have hs7 := hw7.size
      have hbox7 := rangeAt_below hp6.out hbel hg6
      obtain ⟨c50, h50, A8, k8, e8, l8, m8, R8⟩ := H.out.sets
      obtain ⟨c51, h51, A9, k9, e9, l9, m9, R9⟩ := H.out.pubs
      cases e8; cases e9
      have q50 : W7.cell? ⟨w.heap.size, 50, Option.none⟩ = some (.slice A8 r.sets.length k8) := by simpa using hbox7 50 _ h50
      have q51 : W7.cell? ⟨w.heap.size, 51, Option.none⟩ = some (.slice A9 r.pubs.length k9) := by simpa using hbox7 51 _ h51
      have hrow7 := Lib.hid (rowAt_of hbox7 H.out.len)
      have hg7 : w.heap.size < W7.heap.size := by omega
      have R8' := Lib.hid R8
      have R9' := Lib.hid R9
      clear hmap hbel p6 hbox7 h50 h51 R8 R9 hlt hk
      go_wp2_with fail
      go_loopw [35] (StR W7.heap.size W7 r.outputs r.sets) (fun i _ => r.sets.length - (intOf i).toNat)
      case atStart => exact ⟨0, Nat.zero_le _, rfl, allZero_zero _, Below.refl _ _⟩
      case round =>
        obtain ⟨k, hk, rfl, hall, hbel⟩ := hrel
        have HA := Lib.hid hall
        have hs8 := hbel.size
        have hw8 := hw7.trans (hbel.mono hs7)
        clear hall
        by_cases hlt : k < r.sets.length
        · obtain ⟨b, o, ds, x, rfl, hbb, hx, -, ⟨cx, rfl, -, A5, k5, e5, l5, m5, R5⟩, hat⟩ := (R8'.out.mono SetC.mono (Nat.le_refl _) (hw8.mono hB)).at_ hlt
          cases e5
          have q0 : wr.cell? ⟨b, o + k * 2, Option.none⟩ = some (.string x.1) := hat 0 _ rfl
          have q1 : wr.cell? ⟨b, o + k * 2 + 1, Option.none⟩ = some (.slice A5 x.2.length k5) := hat 1 _ rfl
          have HX := Lib.hid hx
          have h30 := hsm.signals x (List.mem_of_getElem? hx)
          have HR5 := Lib.hid R5
          have hmm := @run_makeMap Tryd.prog
          have hbr : b < wr.heap.size := by omega
          clear hx hat R5 q50 q51
          go_wp2_with fail
          clear hmm
          obtain ⟨wo, rfl⟩ : ∃ wo : World, wo = wr := ⟨_, rfl⟩
          have hbo := box_below wo (Obj.cells #[.string x.1, .slice A5 x.2.length k5] 72)
          go_loopw [43] (SgR (wo.heap.size + 1) (wo.alloc (Obj.cells #[.string x.1, .slice A5 x.2.length k5] 72)) r.outputs x.2) (fun i _ => x.2.length - (intOf i).toNat)
          case atStart => exact ⟨0, Nat.zero_le _, rfl, allZero_zero _, by rw [seenF_zero]; simpa using MapS.made Tryd.prog 9 4 (wo.alloc (Obj.cells #[.string x.1, .slice A5 x.2.length k5] 72)), (Below.refl _ _).alloc (by simp) _⟩
          case round =>
            obtain ⟨j, hj, rfl, hall, hmap, hbi⟩ := hrel
            have HZ := Lib.hid hall
            have hwo : Below wo.heap.size wo wr := hbo.trans (hbi.mono (Nat.le_succ _))
            have hb7 : Below W7.heap.size W7 wr := hbel.trans (hwo.mono hs8)
            have hw9 := hw7.trans (hb7.mono hs7)
            have hmb := hmap.block
            clear hall
            by_cases hjl : j < x.2.length
            · obtain ⟨b2, o2, sg, rfl, hb2, hsg, hss, hcs⟩ := (HR5.out.mono StrC.mono (Nat.le_refl _) (hwo.mono (by omega))).strAt hjl
              have hlk := (HM.out.below hb7 hm1).look (t := 100) Tryd.underlying9 Tryd.underlying100 (zeroBool _) hss false
              have hlk2 := hmap.look (t := 100) Tryd.underlying9 Tryd.underlying100 (zeroBool _) hss false
              rw [seenF_get] at hlk hlk2
              simp only [Bool.false_eq_true, if_false] at hlk hlk2
              have HSG := Lib.hid hsg
              clear hsg q0 q1
              cases hk1 : seen r.outputs r.outputs.length sg with
              | false =>
                rw [hk1] at hlk
                have HK := Lib.hid hk1
                clear hk1 hmap hlk2
                go_wp2
                go_ret
                exact ⟨ret_int (own_set HD.out HA.out hlt (setK_bad HX.out HZ.out hjl (sigE_9 HSG.out HK.out) (by decide)) (by decide)).symm, hw9⟩
              | true =>
                rw [hk1] at hlk
                have HK := Lib.hid hk1
                clear hk1
                cases hk2 : seen x.2 j sg with
                | true =>
                  rw [hk2] at hlk2
                  have HK2 := Lib.hid hk2
                  clear hk2 hmap
                  go_wp2
                  go_ret
                  exact ⟨ret_int (own_set HD.out HA.out hlt (setK_bad HX.out HZ.out hjl (sigE_8 HSG.out HK.out HK2.out) (by decide)) (by decide)).symm, hw9⟩
                | false =>
                  rw [hk2] at hlk2
                  have HK2 := Lib.hid hk2
                  obtain ⟨w', hup, hm', hg⟩ := hmap.store (t := 100) Tryd.underlying9 Tryd.underlying100 (by unfold maxLen; omega) hss (plainElem_bool Tryd.underlying4 true)
                  have HM2 := Lib.hid hm'
                  have HB2 := Lib.hid (hbi.grown hg (by omega) (fun j hj => by cases hj; exact Nat.le_refl _))
                  clear hk2 hmap hm' hg
                  go_wp2
                  go_roundw
                  case rel => exact ⟨j + 1, by omega, by go_num, allZero_succ HZ.out (sigE_0 HSG.out HK.out HK2.out), by rw [seenF_succ HSG.out]; exact HM2.out, HB2.out⟩
                  case measure => simp [intOf]; omega
            · obtain rfl : j = x.2.length := by omega
              clear hmap q0 q1
              go_wp2
              go_roundw
              case rel => exact ⟨k + 1, by omega, by go_num, allZero_succ HA.out (setK_good HX.out HZ.out), hb7⟩
              case measure => simp [intOf]; omega
        · obtain rfl : k = r.sets.length := by omega
          have q51' : wr.cell? ⟨w.heap.size, 51, Option.none⟩ = some (.slice A9 r.pubs.length k9) := (hbel.cell (p := ⟨w.heap.size, 51, Option.none⟩) hg7).trans q51
          obtain ⟨W8, rfl⟩ : ∃ W8 : World, W8 = wr := ⟨_, rfl⟩
          have hrow8 := Lib.hid (rowAt_below hrow7.out hbel hg7)
          have hs8' := hw8.size
          have hg8 : w.heap.size < W8.heap.size := by omega
          clear q50 q51 hlt hk
          go_wp2_with fail
          go_loopw [63] (PbR W8.heap.size W8 r) (fun i _ => r.pubs.length - (intOf i).toNat)
          case atStart => exact ⟨0, Nat.zero_le _, rfl, allZero_zero _, Below.refl _ _⟩
          case round =>
            obtain ⟨k, hk, rfl, hall, hbel8⟩ := hrel
            have HZ := Lib.hid hall
            have hw9 := hw8.trans (hbel8.mono hs8')
            have hs9 := hbel8.size
            clear hall q51'
            by_cases hlt : k < r.pubs.length
            · obtain ⟨b, o, ds, x, rfl, hbb, hx, -, ⟨u1, u2, rfl, hxl⟩, hat⟩ := (R9'.out.mono PubC.mono (Nat.le_refl _) (hw9.mono hB)).at_ hlt
              have q0 : wr.cell? ⟨b, o + k * 3, Option.none⟩ = some (.string x) := hat 0 _ rfl
              have q1 : wr.cell? ⟨b, o + k * 3 + 1, Option.none⟩ = some (.int .i64 u1) := hat 1 _ rfl
              have q2 : wr.cell? ⟨b, o + k * 3 + 2, Option.none⟩ = some (.int .i64 u2) := hat 2 _ rfl
              have HX := Lib.hid hx
              have hrow9 := rowAt_below hrow8.out hbel8 hg8
              clear hx hat
              have e9 := hbel8.alloc hs9 (Obj.cells #[.string x, .int .i64 u1, .int .i64 u2] 95)
              have C := setOf_any cs r B x (wr.alloc (Obj.cells #[.string x, .int .i64 u1, .int .i64 u2] 95)) (by simp; omega) (RelayC.mono _ _ _ _ _ _ (Nat.le_refl _) ((hw8.trans (e9.mono hs8')).mono hB) H.out) (by omega)
              have hgr : w.heap.size < wr.heap.size := by omega
              have hrow10 := (rowAt_alloc_old wr (Obj.cells #[.string x, .int .i64 u1, .int .i64 u2] 95) w.heap.size 0 53 hgr).trans hrow9
              have HC := Lib.hid C
              clear C
              rcases idx_cases (fun d : ByteArray × List ByteArray => same d.1 x) r.sets with ⟨hix, -⟩ | ⟨si, sd, hix, -, -, -⟩
              · have hpk : pubK r k = 9 := by simp [pubK, HX.out, hix]
                rw [hix] at HC
                have HP := Lib.hid hpk
                clear hpk hix
                go_wp2_with (go_at_call 43; refine HC.out.mono ?_; rintro e w10 ⟨rfl, hb10⟩)
                go_ret
                exact ⟨ret_int (own_pub HD.out HA.out HZ.out hlt HP.out (by decide)).symm, hw9.trans ((box_below wr _).trans (hb10.mono (by simp)) |>.mono (by have := hw9.size; omega))⟩
              · have hpk : pubK r k = 0 := by simp [pubK, HX.out, hix]
                rw [hix] at HC
                have HP := Lib.hid hpk
                clear hpk hix
                go_wp2_with (go_at_call 43; refine HC.out.mono ?_; rintro e w10 ⟨rfl, hb10⟩)
                go_roundw
                case rel => exact ⟨k + 1, by omega, by go_num, allZero_succ HZ.out HP.out, e9.trans (hb10.mono (by simp; omega))⟩
                case measure => simp [intOf]; omega
            · obtain rfl : k = r.pubs.length := by omega
              go_wp2
              go_ret
              exact ⟨ret_int (own_ok HD.out HA.out HZ.out).symm, hw9⟩
end Go.Proofs.YtfncnhgopbmabaaDoor
