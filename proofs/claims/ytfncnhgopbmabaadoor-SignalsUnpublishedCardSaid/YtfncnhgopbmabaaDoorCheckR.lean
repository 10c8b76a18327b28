/-
  Check of the reference, over any configuration.
-/
import Derived.Test.YtfncnhgopbmabaaDoorCheckP
import Derived.Test.YtfncnhgopbmabaaDoorFindL
namespace Go.Proofs.YtfncnhgopbmabaaDoor
open Go.RowKit

attribute [local go_sem ↓] loadRelay_fold storeRelay_fold
attribute [local go_sem] loadRelay_row storeRelay_new

theorem twice_below (A : Option Addr) (c B : Nat) (xs : List ByteArray) (w : World) (hr : Rws StrC 1 w B A xs.length xs) (hc : xs.length ≤ c) (hm : c ≤ maxLen) :
    Calls Tryd.prog 49 #[.slice A xs.length c] w (RetBool (dupB xs) w) :=
  (twice_any A c B xs w hr hc hm).mono fun _ _ ⟨he, d, hw⟩ => ⟨he, by subst hw; exact below_drewN (Below.refl _ _) d⟩

def OnS (B : Nat) (W1 : World) (outs : List ByteArray) (sets : List (ByteArray × List ByteArray)) (i : Value) (wr : World) : Prop :=
  ∃ k : Nat, k ≤ sets.length ∧ i = .int .i64 k ∧ AllZero (setK outs sets) k ∧ Below B W1 wr
def OnG (B : Nat) (W1 : World) (outs sigs : List ByteArray) (i : Value) (wr : World) : Prop :=
  ∃ k : Nat, k ≤ sigs.length ∧ i = .int .i64 k ∧ AllZero (sigE outs sigs) k ∧ Below B W1 wr

set_option maxRecDepth 100000 in
set_option maxHeartbeats 8000000 in
theorem one_any (a0 a1 a2 a3 a4 : Value) (A : Option Addr) (c B : Nat) (rs : List RelayM) (n : Nat) (hnl : n < rs.length) (w : World) (hB : B ≤ w.heap.size) (h : Conf w B a0 a1 a2 a3 a4 A c rs) (hn : SmallAll rs) :
    Calls Tryd.prog 41 #[.agg #[a0, a1, a2, a3, a4, .slice A rs.length c], .int .i64 (n : Int)] w (RetInt (oneK rs n) w) := by
  obtain ⟨i0, hi, hz0, hz1, hz2⟩ := info_parts infoStr
  have H := Lib.hid h
  have hr := h.rows
  clear h
  obtain ⟨b, o, cs, r, rfl, hbB, hx, hR, hbx, hrow, -⟩ := relayAt hr hnl
  have HX := Lib.hid hx
  have hb' : b < w.heap.size := by omega
  have hn0 : (0 : Int) ≤ (n : Int) := by omega
  have hn1 : (n : Int) < (rs.length : Int) := by omega
  have hsm := hn.2 r (List.mem_of_getElem? hx)
  have hru := hsm.rules
  have hsu := hsm.subs
  have hse := hsm.sets
  have hpu := hsm.pubs
  have HSO := Lib.hid (outputs_sizes hR)
  have HSI := Lib.hid (inputs_sizes hR)
  have hlO : r.outputs.length ≤ 36 := by have := fixedL_len r.kind; simp only [RelayM.outputs, List.length_append, List.length_map]; omega
  have hlI : r.inputs.length ≤ 30 := by simp only [RelayM.inputs, List.length_map]; omega
  have hbox := box_below w (Obj.cells #[a0, a1, a2, a3, a4, .slice (some ⟨b, o, Option.none⟩) rs.length c] 49)
  have CB0 := CB.new w a0 a1 a2 a3 a4 (.slice (some ⟨b, o, Option.none⟩) rs.length c) 49
  have hrow1 := rowAt_below hrow (hbox.mono hB) hbB
  have CB1 := CB0.below (box_below _ (Obj.cells cs.toArray 34)) CB0.lt
  have hrw1 := rowAt_new (w.alloc (Obj.cells #[a0, a1, a2, a3, a4, .slice (some ⟨b, o, Option.none⟩) rs.length c] 49)) cs 34 (w.heap.size + 1) 53 (by simp) hbx
  have hw1 := hbox.alloc (by simp) (Obj.cells cs.toArray 34)
  have HR := Lib.hid hR
  clear hx hR hr hrow CB0
  go_enter Tryd.func41, Tryd.ntmps41
  go_wp2_with fail
  have hW1s : ((w.alloc (Obj.cells #[a0, a1, a2, a3, a4, .slice (some ⟨b, o, Option.none⟩) rs.length c] 49)).alloc (Obj.cells cs.toArray 34)).heap.size = w.heap.size + 1 + 1 := by simp
  generalize ((w.alloc (Obj.cells #[a0, a1, a2, a3, a4, .slice (some ⟨b, o, Option.none⟩) rs.length c] 49)).alloc (Obj.cells cs.toArray 34)) = W1 at *
  have hs1 : w.heap.size ≤ W1.heap.size := by omega
  have hg1 : w.heap.size + 1 < W1.heap.size := by omega
  have hg0 : w.heap.size < W1.heap.size := by omega
  clear hW1s hrow1 hbox
  have C1 := fun W' (hb : Below W1.heap.size W1 W') => routputs_any cs r B W' (by have := hb.size; omega) (RelayC.mono _ _ _ _ _ _ (Nat.le_refl _) ((hw1.trans (hb.mono hs1)).mono hB) HR.out) hru
  have C2 := fun W' (hb : Below W1.heap.size W1 W') => rinputs_any cs r B W' (by have := hb.size; omega) (RelayC.mono _ _ _ _ _ _ (Nat.le_refl _) ((hw1.trans (hb.mono hs1)).mono hB) HR.out) hsu
  have C3 : ∀ (W' : World) (A' : Option Addr) (c' : Nat), W'.ownsRow W1.heap.size 9 1 (.slice A' (r.outputs.length + r.inputs.length) c') (r.outputs.length + r.inputs.length) (r.outputs.map .string ++ r.inputs.map .string) → (r.outputs.length + r.inputs.length) ≤ c' → c' ≤ maxLen → Calls Tryd.prog 49 #[.slice A' (r.outputs.length + r.inputs.length) c'] W' (RetBool (dupB (r.outputs ++ r.inputs)) W') := fun W' A' c' hown h1 h2 => by
    have hl : (r.outputs ++ r.inputs).length = r.outputs.length + r.inputs.length := List.length_append
    have := twice_below A' c' W'.heap.size (r.outputs ++ r.inputs) W' (by rw [hl]; exact Rws.of_ownStr (by rw [List.map_append]; exact hown) (fun s hs => by
      rcases List.mem_append.1 hs with h1 | h1
      · exact HSO.out s h1
      · exact HSI.out s h1)) (by omega) h2
    rw [hl] at this
    exact this
  have hmx : r.outputs.length + r.inputs.length ≤ maxLen := by unfold maxLen; omega
  have hbx2 : (r.outputs.length + r.inputs.length) * 16 ≤ 140737488355328 := by omega
  have hone := strs_one r.inputs
  have HC1 := Lib.hid C1
  have HC2 := Lib.hid C2
  have HC3 := Lib.hid C3
  clear C1 C2 C3
  go_wp2_with fail
  go_region_held3 (fun w' => rowAt w' (w.heap.size + 1) 0 53 = some cs) (go_keep)
    (first
     | ((go_at_call 15; refine (HC1.out _ (below_drewN (Below.refl _ _) 1)).mono ?_; rintro e w3 ⟨A3, c3, rfl, -, -, ho3, hb3'⟩; have hb3 := below_same (a := W1) (B' := W1.heap.size) hb3' rfl rfl rfl rfl (Nat.le_refl _); have p3 := rowAt_below hrw1 hb3 hg1))
     | ((go_at_call 17; refine (HC2.out _ hb3).mono ?_; rintro e w4 ⟨A4, c4, rfl, -, -, ho4, hb4⟩; have hb24 := hb3.trans (hb4.mono hb3.size); have p4 := rowAt_below hrw1 hb24 hg1; have ho34 := own_base (base' := W1.heap.size) (own_below ho3 hb4 (Nat.le_refl _)) (Nat.le_refl _); have hsrc := Src.of_own ho4))
     | ((have _t := ho34; refine step_append_src _ _ 38 (by rfl) (by rfl) Tryd.underlying38 hi hz0 hz1 hz2 rfl Nat.one_pos (by rfl) ho34 hb24 (by rfl) hsrc hone hmx hbx2 hb24.size ?_; intro v5 w5 hown5 hbel5 hsz5; have p5 := rowAt_below hrw1 hbel5 hg1; obtain ⟨A5, c5, hv5, hl5, hm5⟩ := own_shape hown5; subst hv5))
     | ((go_at_call 49; refine (HC3.out _ _ _ hown5 hl5 hm5).mono ?_; rintro e w6 ⟨rfl, hb6⟩; have hb26 := hbel5.trans (hb6.mono hbel5.size); have p6 := rowAt_below hrw1 hb26 hg1)))
  have hw6 := hw1.trans (hb26.mono hs1)
  have hs6 := hw6.size
  clear hb3' hb3 hb4 hb24 ho3 ho4 ho34 hsrc hown5 hbel5 hb6 p3 p4 p5 HC2 HC3 hone hmx hbx2
  cases hd : dupB (r.outputs ++ r.inputs) with
  | true =>
    have e0 : oneK rs n = 8 := by rw [one_own HX.out (by rw [own_dup hd]; decide), own_dup hd]
    have HE := Lib.hid e0
    clear hd e0
    go_wp2
    go_ret
    exact ⟨ret_int HE.out.symm, hw6⟩
  | false =>
  have HD := Lib.hid hd
  clear hd
  obtain ⟨c50, h50, A8, k8, e8, l8, m8, R8⟩ := HR.out.sets
  obtain ⟨c51, h51, A9, k9, e9, l9, m9, R9⟩ := HR.out.pubs
  cases e8; cases e9
  have hbx6 := (of_rowAt p6).2
  have q50 : w6.cell? ⟨w.heap.size + 1, 50, Option.none⟩ = some (.slice A8 r.sets.length k8) := by simpa using hbx6 50 _ h50
  have q51 : w6.cell? ⟨w.heap.size + 1, 51, Option.none⟩ = some (.slice A9 r.pubs.length k9) := by simpa using hbx6 51 _ h51
  have hrow6 := Lib.hid p6
  have hg6 : w.heap.size + 1 < w6.heap.size := by have := hb26.size; omega
  have R8' := Lib.hid R8
  have R9' := Lib.hid R9
  clear hbx6 h50 h51 R8 R9 p6
  go_wp2_with fail
  go_loopw [6] (OnS w6.heap.size w6 r.outputs r.sets) (fun i _ => r.sets.length - (intOf i).toNat)
  case atStart => exact ⟨0, Nat.zero_le _, rfl, allZero_zero _, Below.refl _ _⟩
  case round =>
    obtain ⟨k, hk, rfl, hall, hbel⟩ := hrel
    have HA := Lib.hid hall
    have hs8 := hbel.size
    have hw8 := hw6.trans (hbel.mono hs6)
    have t50 : wr.cell? ⟨w.heap.size + 1, 50, Option.none⟩ = some (.slice A8 r.sets.length k8) := (hbel.cell (p := ⟨w.heap.size + 1, 50, Option.none⟩) hg6).trans q50
    clear hall
    by_cases hlt : k < r.sets.length
    · obtain ⟨b8, o8, ds, x, rfl, hbb, hx, -, ⟨cx, rfl, -, A5, k5, e5, l5, m5, R5⟩, hat⟩ := R8'.out.at_ hlt
      cases e5
      have HX2 := Lib.hid hx
      have h30 := hsm.signals x (List.mem_of_getElem? hx)
      have HR5 := Lib.hid R5
      have hb8 : b8 < w.heap.size := by omega
      have q1 : w.cell? ⟨b8, o8 + k * 2 + 1, Option.none⟩ = some (.slice A5 x.2.length k5) := hat 1 _ rfl
      have hk0 : (0 : Int) ≤ (k : Int) := by omega
      have hk1 : (k : Int) < (r.sets.length : Int) := by omega
      clear hx hat R5
      go_wp2_with fail
      go_loopw [7] (OnG w6.heap.size w6 r.outputs x.2) (fun i _ => x.2.length - (intOf i).toNat)
      case atStart => exact ⟨0, Nat.zero_le _, rfl, allZero_zero _, hbel⟩
      case round =>
        clear t50
        obtain ⟨j, hj, rfl, hall, hbi⟩ := hrel
        have HZ := Lib.hid hall
        have hw9 := hw6.trans (hbi.mono hs6)
        have hs9 := hbi.size
        have t50 : wr.cell? ⟨w.heap.size + 1, 50, Option.none⟩ = some (.slice (some ⟨b8, o8, Option.none⟩) r.sets.length k8) := (hbi.cell (p := ⟨w.heap.size + 1, 50, Option.none⟩) hg6).trans q50
        have t1 : wr.cell? ⟨b8, o8 + k * 2 + 1, Option.none⟩ = some (.slice A5 x.2.length k5) := (hw9.cell (p := ⟨b8, o8 + k * 2 + 1, Option.none⟩) hb8).trans q1
        have hrow9 := rowAt_below hrow6.out hbi hg6
        clear hall
        by_cases hjl : j < x.2.length
        · obtain ⟨b2, o2, sg, rfl, hb2, hsg, hss, hcs⟩ := (HR5.out.mono StrC.mono (Nat.le_refl _) (hw9.mono hB)).strAt hjl
          have HSG := Lib.hid hsg
          clear hsg
          go_wp2_with fail
          refine (HC1.out _ (hb26.trans (hbi.mono hb26.size))).mono ?_
          rintro e w10 ⟨A10, c10, rfl, -, -, ho10, hb10⟩
          have hm10 := seen_idx r.outputs r.outputs.length sg
          rw [List.take_length] at hm10
          go_wp2_with fail
          refine (rindex_any A10 c10 w10.heap.size r.outputs sg w10 (Rws.of_ownStr ho10 HSO.out) (by omega)).mono ?_
          rintro e w11 ⟨rfl, rfl⟩
          generalize idx (fun r => same r sg) r.outputs = ix at *
          have hbi10 := hbi.trans (hb10.mono hs9)
          have hw10 := hw6.trans (hbi10.mono hs6)
          have HI := Lib.hid hm10
          have u50 : w10.cell? ⟨w.heap.size + 1, 50, Option.none⟩ = some (.slice (some ⟨b8, o8, Option.none⟩) r.sets.length k8) := (hbi10.cell (p := ⟨w.heap.size + 1, 50, Option.none⟩) hg6).trans q50
          have u1 : w10.cell? ⟨b8, o8 + k * 2 + 1, Option.none⟩ = some (.slice (some ⟨b2, o2, Option.none⟩) x.2.length k5) := (hw10.cell (p := ⟨b8, o8 + k * 2 + 1, Option.none⟩) hb8).trans q1
          clear hm10 ho10 hb10 t50 t1 hcs hrow9
          cases hk1s : seen r.outputs r.outputs.length sg with
          | false =>
            have h0 : ix < 0 := by have := HI.out; rw [hk1s] at this; simpa using this.symm
            have e0 : ownE r = 9 := own_set HD.out HA.out hlt (setK_bad HX2.out HZ.out hjl (sigE_9 HSG.out hk1s) (by decide)) (by decide)
            have e1 : oneK rs n = 9 := by rw [one_own HX.out (by rw [e0]; decide), e0]
            have HE := Lib.hid e1
            clear e0 e1 hk1s
            go_wp2
            go_ret
            exact ⟨ret_int HE.out.symm, hw10⟩
          | true =>
            have h0 : 0 ≤ ix := by have := HI.out; rw [hk1s] at this; simpa using this.symm
            have HK := Lib.hid hk1s
            have hl : (x.2.take j).length = j := by rw [List.length_take]; omega
            have C := rindex_any (some ⟨b2, o2, Option.none⟩) k5 B (x.2.take j) sg w10 (by rw [hl]; exact rws_take (HR5.out.mono StrC.mono (Nat.le_refl _) (hw10.mono hB)) j hj) (by omega)
            rw [hl] at C
            have hsi := seen_idx x.2 j sg
            generalize idx (fun r => same r sg) (x.2.take j) = iv at *
            have HC := Lib.hid C
            have HI2 := Lib.hid hsi
            have hj0 : (0 : Int) ≤ (j : Int) := by omega
            have hjc : (j : Int) ≤ (k5 : Int) := by omega
            clear hk1s C hl hsi
            cases hk2s : seen x.2 j sg with
            | true =>
              have h1 : 0 ≤ iv := by have := HI2.out; rw [hk2s] at this; simpa using this.symm
              have e0 : ownE r = 8 := own_set HD.out HA.out hlt (setK_bad HX2.out HZ.out hjl (sigE_8 HSG.out HK.out hk2s) (by decide)) (by decide)
              have e1 : oneK rs n = 8 := by rw [one_own HX.out (by rw [e0]; decide), e0]
              have HE := Lib.hid e1
              clear e0 e1 hk2s
              go_wp2_with (go_at_call 25; refine HC.out.mono ?_; rintro e w12 ⟨rfl, rfl⟩)
              go_ret
              exact ⟨ret_int HE.out.symm, hw10⟩
            | false =>
              have h1 : iv < 0 := by have := HI2.out; rw [hk2s] at this; simpa using this.symm
              have HK2 := Lib.hid hk2s
              clear hk2s
              go_wp2_with (go_at_call 25; refine HC.out.mono ?_; rintro e w12 ⟨rfl, rfl⟩)
              go_roundw
              case rel => exact ⟨j + 1, by omega, by go_num, allZero_succ HZ.out (sigE_0 HSG.out HK.out HK2.out), hbi10⟩
              case measure => simp [intOf]; omega
        · obtain rfl : j = x.2.length := by omega
          go_wp2
          go_roundw
          case rel => exact ⟨k + 1, by omega, by go_num, allZero_succ HA.out (setK_good HX2.out HZ.out), hbi⟩
          case measure => simp [intOf]; omega
    · obtain rfl : k = r.sets.length := by omega
      obtain ⟨W8, rfl⟩ : ∃ W8 : World, W8 = wr := ⟨_, rfl⟩
      have q51' : W8.cell? ⟨w.heap.size + 1, 51, Option.none⟩ = some (.slice A9 r.pubs.length k9) := (hbel.cell (p := ⟨w.heap.size + 1, 51, Option.none⟩) hg6).trans q51
      have hrow8 := rowAt_below hrow6.out hbel hg6
      have hg8 : w.heap.size + 1 < W8.heap.size := by omega
      have hs8' := hw8.size
      have CB8 := CB1.below (hb26.trans (hbel.mono hb26.size)) hg0
      obtain ⟨c52, h52, A7, k7, e7, l7, m7, R7⟩ := HR.out.subs
      cases e7
      have q52 : W8.cell? ⟨w.heap.size + 1, 52, Option.none⟩ = some (.slice A7 r.subs.length k7) := by simpa using (of_rowAt hrow8).2 52 _ h52
      have HRow8 := Lib.hid hrow8
      clear q50 q51 hlt hk hrow8 h52 R7 HC1
      go_wp2_with fail
      clear t50
      go_loopw [9] (PbR W8.heap.size W8 r) (fun i _ => r.pubs.length - (intOf i).toNat)
      case atStart => exact ⟨0, Nat.zero_le _, rfl, allZero_zero _, Below.refl _ _⟩
      case round =>
        obtain ⟨k, hk, rfl, hall, hbel8⟩ := hrel
        have HZ := Lib.hid hall
        have hw9 := hw8.trans (hbel8.mono hs8')
        have hs9 := hbel8.size
        have t51 : wr.cell? ⟨w.heap.size + 1, 51, Option.none⟩ = some (.slice A9 r.pubs.length k9) := (hbel8.cell (p := ⟨w.heap.size + 1, 51, Option.none⟩) hg8).trans q51'
        clear hall
        by_cases hlt : k < r.pubs.length
        · obtain ⟨b9, o9, ds, x, rfl, hbb, hx, -, ⟨u1, u2, rfl, hxl⟩, hat⟩ := (R9'.out.mono PubC.mono (Nat.le_refl _) (hw9.mono hB)).at_ hlt
          have q0 : wr.cell? ⟨b9, o9 + k * 3, Option.none⟩ = some (.string x) := hat 0 _ rfl
          have HX2 := Lib.hid hx
          have hrow9 := rowAt_below HRow8.out hbel8 hg8
          have hg9 : w.heap.size + 1 < wr.heap.size := by omega
          have hb9 : b9 < wr.heap.size := by omega
          have hk0 : (0 : Int) ≤ (k : Int) := by omega
          have hk1 : (k : Int) < (r.pubs.length : Int) := by omega
          have C := fun W' (hb : Below wr.heap.size wr W') => rset_any cs r B x W' (by have := hb.size; omega) (RelayC.mono _ _ _ _ _ _ (Nat.le_refl _) ((hw9.trans (hb.mono (by omega))).mono hB) HR.out) (by omega)
          have HC := Lib.hid C
          clear C hx hat
          go_wp2_with fail
          go_region_held3 (fun w' => rowAt w' (w.heap.size + 1) 0 53 = some cs ∧ w'.cell? ⟨w.heap.size + 1, 51, Option.none⟩ = some (.slice (some ⟨b9, o9, Option.none⟩) r.pubs.length k9) ∧ w'.cell? ⟨b9, o9 + k * 3, Option.none⟩ = some (.string x)) (go_keep)
            (first
             | ((go_at_call 36; refine (HC.out _ (below_drewN (Below.refl _ _) 1)).mono ?_; rintro e w10 ⟨rfl, hb10'⟩; have hb10 := below_same (a := wr) (B' := wr.heap.size) hb10' rfl rfl rfl rfl (Nat.le_refl _); have p1 := rowAt_below hrow9 hb10 hg9; have p2 := (hb10.cell (p := ⟨w.heap.size + 1, 51, Option.none⟩) hg9).trans t51; have p3 := (hb10.cell (p := ⟨b9, o9 + k * 3, Option.none⟩) hb9).trans q0)))
          have hbel10 := hbel8.trans (hb10.mono hs9)
          clear HC hb10' hb10 p1 p2 p3 q0 t51
          rcases idx_cases (fun d : ByteArray × List ByteArray => same d.1 x) r.sets with ⟨hix, -⟩ | ⟨si, sd, hix, -, -, -⟩
          · have hpk : pubK r k = 9 := by simp [pubK, HX2.out, hix]
            have e0 : ownE r = 9 := own_pub HD.out HA.out HZ.out hlt hpk (by decide)
            have e1 : oneK rs n = 9 := by rw [one_own HX.out (by rw [e0]; decide), e0]
            have HE := Lib.hid e1
            rw [hix]
            clear hpk hix e0 e1
            go_wp2
            go_ret
            exact ⟨ret_int HE.out.symm, hw8.trans (hbel10.mono hs8')⟩
          · have hpk : pubK r k = 0 := by simp [pubK, HX2.out, hix]
            have HP := Lib.hid hpk
            rw [hix]
            clear hpk hix
            go_wp2
            go_roundw
            case rel => exact ⟨k + 1, by omega, by go_num, allZero_succ HZ.out HP.out, hbel10⟩
            case measure => simp [intOf]; omega
        · obtain rfl : k = r.pubs.length := by omega
          have e0 : ownE r = 0 := own_ok HD.out HA.out HZ.out
          have HE := Lib.hid e0
          have t52 : wr.cell? ⟨w.heap.size + 1, 52, Option.none⟩ = some (.slice A7 r.subs.length k7) := (hbel8.cell (p := ⟨w.heap.size + 1, 52, Option.none⟩) hg8).trans q52
          clear e0 hlt hk
          go_wp2_with fail
          clear t51
          go_loopw [10] (ChI W8.heap.size W8 rs n r.subs.length) (fun i _ => r.subs.length - (intOf i).toNat)
          case atStart => exact ⟨0, Nat.zero_le _, rfl, allZero_zero _, hbel8⟩
          case round =>
            clear t52 hbel8 hw9 hs9
            obtain ⟨m, hm, rfl, hall, hbel1⟩ := hrel
            have HZ2 := Lib.hid hall
            have hw9 := hw8.trans (hbel1.mono hs8')
            have hs9 := hbel1.size
            have t52 : wr.cell? ⟨w.heap.size + 1, 52, Option.none⟩ = some (.slice A7 r.subs.length k7) := (hbel1.cell (p := ⟨w.heap.size + 1, 52, Option.none⟩) hg8).trans q52
            obtain ⟨hlt1, y0, y1, y2, y3, y4, y5⟩ := CB8.below hbel1 (by omega)
            clear hall
            by_cases hmt : m < r.subs.length
            · have C := rFind_any a0 a1 a2 a3 a4 (some ⟨b, o, Option.none⟩) c B rs (n : Int) (m : Int) wr (by omega) (H.out.mono (Nat.le_refl _) (hw9.mono hB)) hn
              have HC := Lib.hid C
              clear C
              go_wp2_with fail
              refine HC.out.mono ?_
              rintro e w12 ⟨rfl, hb12⟩
              have hsk : subK rs n m = (FindP rs (n : Int) (m : Int)).2.2.2 := rfl
              generalize FindP rs (n : Int) (m : Int) = p at *
              have HSK := Lib.hid hsk
              have hbel2 := hbel1.trans (hb12.mono hs9)
              have hbel3 := hbel2.alloc hbel2.size (Obj.cells #[.int .i64 p.1, .int .i64 p.2.1, .int .i64 p.2.2.1] 56)
              clear hsk HC hb12 y0 y1 y2 y3 y4 y5 t52
              cases hz : (p.2.2.2 != 0) with
              | true =>
                have hnz : subK rs n m ≠ 0 := by rw [HSK.out]; simpa using hz
                have e1 : oneK rs n = p.2.2.2 := by rw [one_sub HX.out HE.out HZ2.out hmt hnz, HSK.out]
                have HE2 := Lib.hid e1
                clear hnz e1
                go_wp2
                go_ret
                exact ⟨ret_int HE2.out.symm, hw8.trans (hbel3.mono hs8')⟩
              | false =>
                have hnz : subK rs n m = 0 := by rw [HSK.out]; simpa using hz
                have HN2 := Lib.hid hnz
                clear hnz
                go_wp2
                go_roundw
                case rel => exact ⟨m + 1, by omega, by go_num, allZero_succ HZ2.out HN2.out, hbel3⟩
                case measure => simp [intOf]; omega
            · obtain rfl : m = r.subs.length := by omega
              go_wp2
              go_ret
              exact ⟨ret_int (one_ok HX.out HE.out HZ2.out).symm, hw9⟩
end Go.Proofs.YtfncnhgopbmabaaDoor
