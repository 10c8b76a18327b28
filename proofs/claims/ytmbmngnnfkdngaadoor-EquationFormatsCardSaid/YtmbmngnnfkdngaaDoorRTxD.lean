/-
  The reference's text: timers.
-/
import Derived.Test.YtmbmngnnfkdngaaDoorRTxP
namespace Go.Proofs.YtmbmngnnfkdngaaDoor
open Go.RowKit

set_option maxRecDepth 100000 in
set_option maxHeartbeats 8000000 in
theorem text_timed (d : Nat) (ih0 : TxOk d) (op n : Int) (nm : List UInt8) (A : Option Addr) (c : Nat) (ks : List Ex) (w : World) (hd : d + 1 ≤ 16) (hok : okG (d + 1) (.mk op n nm ks)) (_hc : ks.length ≤ c) (_hm : c ≤ maxLen) (hr : Rw ExV 4 w (fun b => b < w.heap.size) A ks.length ks) (h13 : 13 ≤ op) (ht : op = 19 ∨ op = 20) :
    Calls Tryd.prog 38 #[exV op n nm A ks.length c] w (RetStr (fmtG (d + 1) (.mk op n nm ks)) w) := by
    have ih := fun op n nm A c ks w => ih0 op n nm A c ks w (by omega)
    have hlenK : ∀ k ∈ ks, (fmtG d k).length ≤ 171798691840 := fun k hk => Nat.le_trans (fmt_len d k (hok.2 k hk)) (fmt_pow (by omega))
    obtain ⟨hnode, hkids⟩ := hok
    obtain ⟨hna, hn3, hn4⟩ := node_parts hnode
    obtain ⟨hop1, hop2⟩ := arity_range hna
    have har := arity_le op
    have hk3 : ks.length ≤ 3 := by omega
    have hml := most_le op
    have hX := XV.new w op n nm A ks.length c
    have hb1 := box_below w (Obj.cells #[.int .i64 op, .int .i64 n, .string ⟨nm.toArray⟩, .slice A ks.length c] 24)
    have HIH := Lib.hid ih
    have HK := Lib.hid hkids
    have HR := Lib.hid hr
    have HX := Lib.hid hX
    have HB := Lib.hid hb1
    have HNA := Lib.hid hna
    have HN3 := Lib.hid hn3
    have HN4 := Lib.hid hn4
    have HLK := Lib.hid hlenK
    have HML := Lib.hid hml
    obtain ⟨i, hi, hz0, hz1, hz2⟩ := info_parts infoStr
    have HI1 := Lib.hid hi
    have HI2 := Lib.hid hz0
    have HI3 := Lib.hid hz1
    have HI4 := Lib.hid hz2
    clear ih hkids hr hX hb1 hnode hna hn3 hn4 hlenK hml har hi hz0 hz1 hz2
    have hm := _hm
    unfold maxLen at hm
    unfold exV
    have e1 : ¬ op = 1 := by omega
    have e2 : ¬ op = 2 := by omega
    have e3 : ¬ op = 3 := by omega
    have e4 : ¬ op = 4 := by omega
    have HE1 := Lib.hid e1
    have HE2 := Lib.hid e2
    have HE3 := Lib.hid e3
    have HE4 := Lib.hid e4
    have o1 : (op == 1) = false := by simp [e1]
    have o2 : (op == 2) = false := by simp [e2]
    have o3 : (op == 3) = false := by simp [e3]
    have o4 : (op == 4) = false := by simp [e4]
    clear e1 e2 e3 e4
    have hp0 : 0 < ks.length := by
      have h1 : 1 ≤ arityP op := by
        unfold arityP
        rw [if_neg (by omega)]
        repeat' split
        all_goals omega
      have := HNA.out
      omega
    have hFG : fmtG (d + 1) (.mk op n nm ks) = wordP op ++ [40] ++ commaL (ks.map (fmtG d)) ++ (if timedB op then [44, 32] ++ Lib.itoa n else []) ++ [41] := by
      rw [fmtG_succ, if_neg HE1.out, if_neg HE2.out, if_neg HE3.out, if_neg HE4.out, if_neg (by unfold infixB; simp; omega)]
    have HFG := Lib.hid hFG
    have hwl := word_len (op := op) (by omega) hop2
    have HWE := Lib.hid (wordAt_end h13 hop2)
    clear hFG
    generalize wordP op = sw at *
    have HLK2 := Lib.hid (show ∀ x ∈ ks.map (fmtG d), x.length ≤ 171798691840 from fun x hx => by
      obtain ⟨y, hy, rfl⟩ := List.mem_map.1 hx
      exact HLK.out y hy)
    obtain ⟨-, n0, n1⟩ := HN4.out (by omega)
    have hn12 : n < 10 ^ 12 := by have := HML.out; omega
    have C2 := fun W => rnumberI_any n n0 hn12 W
    have hil := itoa_len 4 n n0 (by have := HML.out; omega)
    have HF := Lib.hid (HFG.out.trans (by rw [show timedB op = true by unfold timedB; simp; omega, if_pos rfl]) : fmtG (d + 1) (.mk op n nm ks) = sw ++ [40] ++ commaL (ks.map (fmtG d)) ++ ([44, 32] ++ Lib.itoa n) ++ [41])
    generalize Lib.itoa n = sn at *
    have HC2 := Lib.hid C2
    have ht' : (op == 19) = true ∨ (op == 19) = false ∧ (op == 20) = true := by
      rcases ht with rfl | rfl
      · exact .inl rfl
      · exact .inr ⟨rfl, rfl⟩
    clear C2 ht HFG n0 n1 hn12
    rcases ht' with o19 | ⟨o19, o20⟩
    ·
      go_enter Tryd.func38, Tryd.ntmps38
      go_wp2
      go_loopg [3, 16] (ks.length + 1) (fun g u v wr => TxR w d ks (w.alloc (Obj.cells #[.int .i64 op, .int .i64 n, .string ⟨nm.toArray⟩, .slice A ks.length c] 24)) g u v wr)
      case atStart => exact ⟨0, Nat.zero_le _, by omega, rfl, World.ownsRow_nil _ _ _ _, Below.refl _ _⟩
      case round =>
        obtain ⟨k, hk, hgk, rfl, hown, hbq⟩ := hrel
        obtain ⟨A3, c3, rfl, hc3, hm3⟩ := own_shape hown
        have hbx0 : Below (w.alloc (Obj.cells #[.int .i64 op, .int .i64 n, .string ⟨nm.toArray⟩, .slice A ks.length c] 24)).heap.size (w.alloc (Obj.cells #[.int .i64 op, .int .i64 n, .string ⟨nm.toArray⟩, .slice A ks.length c] 24)) wr := hbq.mono (by rw [World.size_alloc]; exact Nat.le_refl _)
        have hbel := below_two HB.out hbx0 HB.out.size
        have hsw := hbx0.size
        simp only [World.size_alloc] at hsw
        have hzz : w.heap.size < wr.heap.size := by omega
        unfold maxLen at hm3
        by_cases hlt : k < ks.length
        case pos =>
          obtain ⟨b, o, op2, n2, nm2, A2, c2, ys, hA, hSb, hky, hc2, hm2, hp2, hr2, hxb⟩ := exAt (HR.out.mono ExV.mono (fun _ q => q) (keepOn_below hbel fun _ q => q)) hlt
          subst hA
          obtain ⟨y0, y1, y2, y3⟩ := hxb
          have hbx := box_below wr (Obj.cells #[.int .i64 op2, .int .i64 n2, .string ⟨nm2.toArray⟩, .slice A2 ys.length c2] 24)
          have hin : Ex.mk op2 n2 nm2 ys ∈ ks := List.mem_of_getElem? hky
          have hbx2 := below_two hbel hbx hbel.size
          have C := HIH.out op2 n2 nm2 A2 c2 ys (wr.alloc (Obj.cells #[.int .i64 op2, .int .i64 n2, .string ⟨nm2.toArray⟩, .slice A2 ys.length c2] 24)) (HK.out _ hin) hc2 hm2
            (hr2.mono ExV.mono (fun b hb => by simp only [World.size_alloc]; omega) (keepOn_below hbx fun b hb => by omega))
          have hsn := tx_snoc (d := d) hky
          generalize fmtG d (.mk op2 n2 nm2 ys) = s2 at *
          unfold exV at C
          have HC := Lib.hid C
          have HSN := Lib.hid hsn
          have HB3 := Lib.hid (hbq.alloc (show w.heap.size + 1 ≤ wr.heap.size from hsw) (Obj.cells #[.int .i64 op2, .int .i64 n2, .string ⟨nm2.toArray⟩, .slice A2 ys.length c2] 24))
          have HO2 := Lib.hid (hown.alloc (Obj.cells #[.int .i64 op2, .int .i64 n2, .string ⟨nm2.toArray⟩, .slice A2 ys.length c2] 24))
          have hbk : b < wr.heap.size := by omega
          clear C hsn hbx hbx2 hown hbel hky hr2 hin hp2 hSb hbq hbx0
          unfold maxLen at hm2
          go_wp2_with fail
          refine HC.out.mono ?_
          rintro e w5 ⟨rfl, hb5⟩
          have hs5 := hb5.size
          simp only [World.size_alloc] at hs5
          have HB5 := Lib.hid (HB3.out.trans (hb5.mono (by simp only [World.size_alloc]; omega)))
          have HO5 := Lib.hid (own_below HO2.out hb5 (Nat.le_refl _))
          have hsz5 : w.heap.size + 1 ≤ w5.heap.size := by omega
          clear hb5
          go_wp2_with (at_builtin; refine wpList_push (o := ⟨some 24, _, _, _, _, _⟩) _ _ 46 rfl rfl Tryd.underlying46 HI1.out HI2.out HI3.out HI4.out rfl (by decide) rfl HO5.out HB5.out _ rfl rfl rfl (by simp [Value.oneCell']) (by omega) (by unfold maxLen; omega) hsz5 ?_; intro v' w' hown' hbel' _)
          rw [strs_snoc, HSN.out] at hown'
          have HO6 := Lib.hid hown'
          have HB6 := Lib.hid hbel'
          clear hown' hbel'
          go_wp2
          go_roundg (ks.length - k)
          case measure => omega
          case rel => exact ⟨k + 1, by omega, by omega, by go_num, HO6.out, HB6.out⟩
        obtain rfl : k = ks.length := by omega
        obtain ⟨x0, x1, x2, x3, -, -, -, -⟩ := (HX.out.below hbx0).cells
        rw [List.take_length] at hown
        have HOW := Lib.hid hown
        have HBQ := Lib.hid hbq
        have HBW := Lib.hid hbel
        have HBX := Lib.hid hbx0
        clear hown hbq hbel hbx0
        go_wp2_with fail
        refine (HC2.out _).mono ?_
        rintro e w5 ⟨rfl, hb5⟩
        have HO5 := Lib.hid (own_below HOW.out hb5 (Nat.le_refl _))
        have HB5 := Lib.hid (HBQ.out.trans (hb5.mono (by omega)))
        have hsz5 : w.heap.size + 1 ≤ w5.heap.size := by have := hb5.size; omega
        clear hb5 x0 x1 x2 x3
        go_wp2_with (at_builtin; refine wpList_push (o := ⟨some 59, _, _, _, _, _⟩) _ _ 46 rfl rfl Tryd.underlying46 HI1.out HI2.out HI3.out HI4.out rfl (by decide) rfl HO5.out HB5.out _ rfl rfl rfl (by simp [Value.oneCell']) (by omega) (by unfold maxLen; omega) hsz5 ?_; intro v' w' hown' hbel' _)
        rw [strs_snoc] at hown'
        obtain ⟨A4, c4, rfl, hc4, hm4⟩ := own_shape hown'
        unfold maxLen at hm4
        have hbx4 : Below (w.alloc (Obj.cells #[.int .i64 op, .int .i64 n, .string ⟨nm.toArray⟩, .slice A ks.length c] 24)).heap.size (w.alloc (Obj.cells #[.int .i64 op, .int .i64 n, .string ⟨nm.toArray⟩, .slice A ks.length c] 24)) w' := hbel'.mono (by rw [World.size_alloc]; exact Nat.le_refl _)
        have HOW2 := Lib.hid hown'
        have HBW2 := Lib.hid (below_two HB.out hbx4 HB.out.size)
        have HX2 := Lib.hid (HX.out.below hbx4)
        obtain ⟨x0, x1, x2, x3, -, -, -, -⟩ := HX2.out.cells
        have hzz' : w.heap.size < w'.heap.size := by have := hbx4.size; simp only [World.size_alloc] at this; omega
        have HLN := Lib.hid (show (ks.map (fmtG d) ++ [sn]).length = ks.length + 1 by rw [List.length_append, tx_len]; rfl)
        have HLM := Lib.hid (show ∀ x ∈ ks.map (fmtG d) ++ [sn], x.length ≤ 171798691840 from fun x hx => by
          rcases List.mem_append.1 hx with h | h
          · exact HLK2.out x h
          · cases List.mem_singleton.1 h; omega)
        have HF2 := Lib.hid (show fmtG (d + 1) (.mk op n nm ks) = sw ++ [40] ++ commaL (ks.map (fmtG d) ++ [sn]) ++ [41] by
          rw [HF.out, comma_snoc _ _ (List.ne_nil_of_length_pos (by rw [tx_len]; omega))]
          simp)
        clear HOW HBW HBX HBQ HF hown' hbel' hbx4 HO5 HB5
        generalize ks.map (fmtG d) ++ [sn] = L at *
        obtain ⟨g3, hA3, hlo3, hlt3, hcell⟩ := strs_cell HOW2.out HLN.out (show 0 < (ks.length + 1) by omega)
        subst hA3
        have hbn := box_below w' (Obj.cells #[.int .i64 5, .int .i64 6, .int .i64 7, .int .i64 8, .int .i64 9, .int .i64 10, .int .i64 11, .int .i64 12] 3)
        have HCL := Lib.hid (fun i hi => cell_below (hcell i hi) hbn)
        have HBN := Lib.hid (below_two HBW2.out hbn HBW2.out.size)
        have HXN := Lib.hid (HX2.out.below hbn)
        have HI := Lib.hid (show ∀ j, j < 8 → (w'.alloc (Obj.cells #[.int .i64 5, .int .i64 6, .int .i64 7, .int .i64 8, .int .i64 9, .int .i64 10, .int .i64 11, .int .i64 12] 3)).cell? ⟨w'.heap.size, j, Option.none⟩ = some (.int .i64 ((j : Int) + 5)) from fun j hj => (ints_at w' infOps hj).trans (by rw [inf_at hj]))
        have hzl : w'.heap.size < (w'.alloc (Obj.cells #[.int .i64 5, .int .i64 6, .int .i64 7, .int .i64 8, .int .i64 9, .int .i64 10, .int .i64 11, .int .i64 12] 3)).heap.size := by simp only [World.size_alloc]; omega
        clear hcell hbn
        go_wp2
        clear x0 x1 x2 x3
        generalize w'.alloc (Obj.cells #[.int .i64 5, .int .i64 6, .int .i64 7, .int .i64 8, .int .i64 9, .int .i64 10, .int .i64 11, .int .i64 12] 3) = W60 at *
        go_loopg [62] 9 (fun g v wq => InR W60 op g v wq)
        case atStart => exact ⟨0, by omega, by omega, rfl, fun j h => absurd h (Nat.not_lt_zero _), rfl⟩
        case round =>
          rename World => wq
          obtain ⟨k, hk, hg, rfl, hall, rfl⟩ := hrel
          have HALL := Lib.hid hall
          clear hall
          obtain ⟨x0, x1, x2, x3, -, -, -, -⟩ := HXN.out.cells
          by_cases hlt : k < 8
          case pos =>
            have hc := HI.out k hlt
            have hkI : (k : Int) < 8 := by omega
            have e5 : ((k : Int) + 5 == op) = false := by simp; omega
            have HNE := Lib.hid (show ¬ ((k : Int) + 5 = op) by omega)
            go_wp2
            go_roundg (8 - k)
            case measure => omega
            case rel => exact ⟨k + 1, by omega, by omega, by go_num, upto_succT (P := fun j => ¬ ((j : Int) + 5 = op)) HALL.out HNE.out, rfl⟩
          obtain rfl : k = 8 := by omega
          clear HALL HI
          go_wp2_with fail
          refine (rwords_any _).mono ?_
          rintro e w7 ⟨bw, cw, rfl, hWd, hb7⟩
          have HWD := Lib.hid hWd
          have HB7 := Lib.hid (below_two HBN.out hb7 HBN.out.size)
          have HX7 := Lib.hid (HXN.out.below hb7)
          have HCL7 := Lib.hid (fun i hi => cell_below (HCL.out i hi) hb7)
          clear hWd hb7 x0 x1 x2 x3 HXN HCL HBN
          go_wp2
          go_loopg [10, 94] 17 (fun g u v wq => WoR w7 op g u v wq)
          case atStart => exact ⟨0, 0, [], by omega, by omega, rfl, rfl, rfl, rfl⟩
          case round =>
            rename World => wp
            obtain ⟨k, m, x, hk, hg2, rfl, rfl, hx, rfl⟩ := hrel
            have HXE := Lib.hid hx
            clear hx
            obtain ⟨x0, x1, x2, x3, -, -, -, -⟩ := HX7.out.cells
            by_cases hlt : k < 16
            case pos =>
              have hc1 := HWD.out.op hlt
              have hc2 := HWD.out.word hlt
              obtain ⟨ov, hov⟩ : ∃ ov, resOps.getD k 0 = ov := ⟨_, rfl⟩
              obtain ⟨sv, hsv⟩ : ∃ sv, resWords.getD k [] = sv := ⟨_, rfl⟩
              rw [hov] at hc1
              rw [hsv] at hc2
              have hkI : (k : Int) < 16 := by omega
              have HN := Lib.hid (show wordAt op (k + 1) = if ov = op then sv else x by rw [HXE.out, ← hov, ← hsv]; rfl)
              clear hov hsv
              by_cases hv : ov = op
              · have e1 : (ov == op) = true := by simp [hv]
                have HN2 := Lib.hid (HN.out.trans (if_pos hv))
                clear hv
                go_wp2_with fail
                go_quiet (fail)
                go_wp2
                go_roundg (16 - k)
                case measure => omega
                case rel => exact ⟨k + 1, _, sv, by omega, by omega, by go_num, rfl, HN2.out.symm, rfl⟩
              · have e1 : (ov == op) = false := by simp [hv]
                have HN2 := Lib.hid (HN.out.trans (if_neg hv))
                clear hv
                go_wp2_with fail
                go_quiet (fail)
                go_wp2
                go_roundg (16 - k)
                case measure => omega
                case rel => exact ⟨k + 1, _, x, by omega, by omega, by go_num, rfl, HN2.out.symm, rfl⟩
            obtain rfl : k = 16 := by omega
            obtain rfl : x = sw := by rw [HXE.out, HWE.out]
            have HCL8 := Lib.hid (fun i hi => cell_below (HCL7.out i hi) (below_drewN (Below.refl w7.heap.size w7) m))
            have HB8 := Lib.hid (below_drewN HB7.out m)
            have hcat : ({ data := x.toArray } : ByteArray) ++ { data := #[40] } = ⟨(x ++ [40]).toArray⟩ := cat_list x [40]
            obtain ⟨s0, hs0⟩ : ∃ s0, x ++ [40] = s0 := ⟨_, rfl⟩
            have hs0l : s0.length ≤ 6 := by rw [← hs0, List.length_append]; simp; omega
            rw [hs0] at hcat
            have HS0 := Lib.hid hs0
            clear hs0 HCL7 HB7 HWD HX7 HXE x0 x1 x2 x3
            generalize w7.drewN m = W8 at *
            go_wp2
            clear hcat
            go_loopg [10, 113] ((ks.length + 1) + 1) (fun g u v wq => JoR W8 s0 L (ks.length + 1) g u v wq)
            case atStart => exact ⟨0, s0, Nat.zero_le _, by omega, rfl, rfl, rfl, rfl⟩
            case round =>
              rename World => wo
              obtain ⟨k, y, hk, hg2, rfl, rfl, hy, rfl⟩ := hrel
              have HYE := Lib.hid hy
              have hyl : y.length ≤ 700000000000 := by
                have h1 := join_len (s := s0) HLM.out k (by rw [HLN.out]; exact hk)
                rw [← hy] at h1
                have h2 : k * (171798691840 + 2) ≤ 4 * (171798691840 + 2) := Nat.mul_le_mul_right _ (by omega)
                omega
              clear hy
              by_cases hlt : k < (ks.length + 1)
              case pos =>
                have hc := HCL8.out k hlt
                obtain ⟨lk, hlk⟩ : ∃ lk, L.getD k [] = lk := ⟨_, rfl⟩
                have hlkl : lk.length ≤ 171798691840 := by
                  have hl : k < L.length := by rw [HLN.out]; exact hlt
                  rw [← hlk, List.getD_eq_getElem?_getD, List.getElem?_eq_getElem hl]
                  exact HLM.out _ (List.getElem_mem hl)
                rw [hlk] at hc
                have HN := Lib.hid (show joinAt s0 L (k + 1) = (if 0 < k then y ++ [44, 32] else y) ++ lk by rw [HYE.out, ← hlk]; rfl)
                have hkI : (k : Int) < (((ks.length + 1) : Nat) : Int) := by omega
                clear hlk
                by_cases hk0 : 0 < k
                · have hk1 : (0 : Int) < (k : Int) := by omega
                  have HN2 := Lib.hid (HN.out.trans (by rw [if_pos hk0]))
                  have hcat1 : ({ data := y.toArray } : ByteArray) ++ { data := #[44, 32] } = ⟨(y ++ [44, 32]).toArray⟩ := cat_list y [44, 32]
                  have hcat2 : ({ data := (y ++ [44, 32]).toArray } : ByteArray) ++ { data := lk.toArray } = ⟨(y ++ [44, 32] ++ lk).toArray⟩ := cat_list (y ++ [44, 32]) lk
                  obtain ⟨y1, hy1⟩ : ∃ y1, y ++ [44, 32] = y1 := ⟨_, rfl⟩
                  have hy1l : y1.length ≤ 700000000002 := by rw [← hy1, List.length_append]; simp; omega
                  rw [hy1] at hcat1 hcat2
                  have HY1 := Lib.hid hy1
                  clear hy1
                  go_wp2
                  go_roundg ((ks.length + 1) - k)
                  case measure => omega
                  case rel => exact ⟨k + 1, y1 ++ lk, by omega, by omega, by go_num, rfl, by rw [HN2.out, HY1.out], rfl⟩
                · obtain rfl : k = 0 := by omega
                  have HN2 := Lib.hid (HN.out.trans (by rw [if_neg hk0]))
                  have hcat1 : ({ data := y.toArray } : ByteArray) ++ { data := lk.toArray } = ⟨(y ++ lk).toArray⟩ := cat_list y lk
                  go_wp2
                  go_roundg ((ks.length + 1) - 0)
                  case measure => omega
                  case rel => exact ⟨1, y ++ lk, by omega, by omega, by go_num, rfl, by rw [HN2.out], rfl⟩
              obtain rfl : k = (ks.length + 1) := by omega
              have HFF := Lib.hid (show y ++ [41] = fmtG (d + 1) (.mk op n nm ks) by rw [HF2.out, HYE.out, ← HLN.out, join_end, ← HS0.out])
              go_wp2
              go_ret
              exact ⟨ret_str (by rw [← HFF.out]; simp), HB8.out⟩
    ·
      go_enter Tryd.func38, Tryd.ntmps38
      go_wp2
      go_loopg [3, 16] (ks.length + 1) (fun g u v wr => TxR w d ks (w.alloc (Obj.cells #[.int .i64 op, .int .i64 n, .string ⟨nm.toArray⟩, .slice A ks.length c] 24)) g u v wr)
      case atStart => exact ⟨0, Nat.zero_le _, by omega, rfl, World.ownsRow_nil _ _ _ _, Below.refl _ _⟩
      case round =>
        obtain ⟨k, hk, hgk, rfl, hown, hbq⟩ := hrel
        obtain ⟨A3, c3, rfl, hc3, hm3⟩ := own_shape hown
        have hbx0 : Below (w.alloc (Obj.cells #[.int .i64 op, .int .i64 n, .string ⟨nm.toArray⟩, .slice A ks.length c] 24)).heap.size (w.alloc (Obj.cells #[.int .i64 op, .int .i64 n, .string ⟨nm.toArray⟩, .slice A ks.length c] 24)) wr := hbq.mono (by rw [World.size_alloc]; exact Nat.le_refl _)
        have hbel := below_two HB.out hbx0 HB.out.size
        have hsw := hbx0.size
        simp only [World.size_alloc] at hsw
        have hzz : w.heap.size < wr.heap.size := by omega
        unfold maxLen at hm3
        by_cases hlt : k < ks.length
        case pos =>
          obtain ⟨b, o, op2, n2, nm2, A2, c2, ys, hA, hSb, hky, hc2, hm2, hp2, hr2, hxb⟩ := exAt (HR.out.mono ExV.mono (fun _ q => q) (keepOn_below hbel fun _ q => q)) hlt
          subst hA
          obtain ⟨y0, y1, y2, y3⟩ := hxb
          have hbx := box_below wr (Obj.cells #[.int .i64 op2, .int .i64 n2, .string ⟨nm2.toArray⟩, .slice A2 ys.length c2] 24)
          have hin : Ex.mk op2 n2 nm2 ys ∈ ks := List.mem_of_getElem? hky
          have hbx2 := below_two hbel hbx hbel.size
          have C := HIH.out op2 n2 nm2 A2 c2 ys (wr.alloc (Obj.cells #[.int .i64 op2, .int .i64 n2, .string ⟨nm2.toArray⟩, .slice A2 ys.length c2] 24)) (HK.out _ hin) hc2 hm2
            (hr2.mono ExV.mono (fun b hb => by simp only [World.size_alloc]; omega) (keepOn_below hbx fun b hb => by omega))
          have hsn := tx_snoc (d := d) hky
          generalize fmtG d (.mk op2 n2 nm2 ys) = s2 at *
          unfold exV at C
          have HC := Lib.hid C
          have HSN := Lib.hid hsn
          have HB3 := Lib.hid (hbq.alloc (show w.heap.size + 1 ≤ wr.heap.size from hsw) (Obj.cells #[.int .i64 op2, .int .i64 n2, .string ⟨nm2.toArray⟩, .slice A2 ys.length c2] 24))
          have HO2 := Lib.hid (hown.alloc (Obj.cells #[.int .i64 op2, .int .i64 n2, .string ⟨nm2.toArray⟩, .slice A2 ys.length c2] 24))
          have hbk : b < wr.heap.size := by omega
          clear C hsn hbx hbx2 hown hbel hky hr2 hin hp2 hSb hbq hbx0
          unfold maxLen at hm2
          go_wp2_with fail
          refine HC.out.mono ?_
          rintro e w5 ⟨rfl, hb5⟩
          have hs5 := hb5.size
          simp only [World.size_alloc] at hs5
          have HB5 := Lib.hid (HB3.out.trans (hb5.mono (by simp only [World.size_alloc]; omega)))
          have HO5 := Lib.hid (own_below HO2.out hb5 (Nat.le_refl _))
          have hsz5 : w.heap.size + 1 ≤ w5.heap.size := by omega
          clear hb5
          go_wp2_with (at_builtin; refine wpList_push (o := ⟨some 24, _, _, _, _, _⟩) _ _ 46 rfl rfl Tryd.underlying46 HI1.out HI2.out HI3.out HI4.out rfl (by decide) rfl HO5.out HB5.out _ rfl rfl rfl (by simp [Value.oneCell']) (by omega) (by unfold maxLen; omega) hsz5 ?_; intro v' w' hown' hbel' _)
          rw [strs_snoc, HSN.out] at hown'
          have HO6 := Lib.hid hown'
          have HB6 := Lib.hid hbel'
          clear hown' hbel'
          go_wp2
          go_roundg (ks.length - k)
          case measure => omega
          case rel => exact ⟨k + 1, by omega, by omega, by go_num, HO6.out, HB6.out⟩
        obtain rfl : k = ks.length := by omega
        obtain ⟨x0, x1, x2, x3, -, -, -, -⟩ := (HX.out.below hbx0).cells
        rw [List.take_length] at hown
        have HOW := Lib.hid hown
        have HBQ := Lib.hid hbq
        have HBW := Lib.hid hbel
        have HBX := Lib.hid hbx0
        clear hown hbq hbel hbx0
        go_wp2_with fail
        refine (HC2.out _).mono ?_
        rintro e w5 ⟨rfl, hb5⟩
        have HO5 := Lib.hid (own_below HOW.out hb5 (Nat.le_refl _))
        have HB5 := Lib.hid (HBQ.out.trans (hb5.mono (by omega)))
        have hsz5 : w.heap.size + 1 ≤ w5.heap.size := by have := hb5.size; omega
        clear hb5 x0 x1 x2 x3
        go_wp2_with (at_builtin; refine wpList_push (o := ⟨some 59, _, _, _, _, _⟩) _ _ 46 rfl rfl Tryd.underlying46 HI1.out HI2.out HI3.out HI4.out rfl (by decide) rfl HO5.out HB5.out _ rfl rfl rfl (by simp [Value.oneCell']) (by omega) (by unfold maxLen; omega) hsz5 ?_; intro v' w' hown' hbel' _)
        rw [strs_snoc] at hown'
        obtain ⟨A4, c4, rfl, hc4, hm4⟩ := own_shape hown'
        unfold maxLen at hm4
        have hbx4 : Below (w.alloc (Obj.cells #[.int .i64 op, .int .i64 n, .string ⟨nm.toArray⟩, .slice A ks.length c] 24)).heap.size (w.alloc (Obj.cells #[.int .i64 op, .int .i64 n, .string ⟨nm.toArray⟩, .slice A ks.length c] 24)) w' := hbel'.mono (by rw [World.size_alloc]; exact Nat.le_refl _)
        have HOW2 := Lib.hid hown'
        have HBW2 := Lib.hid (below_two HB.out hbx4 HB.out.size)
        have HX2 := Lib.hid (HX.out.below hbx4)
        obtain ⟨x0, x1, x2, x3, -, -, -, -⟩ := HX2.out.cells
        have hzz' : w.heap.size < w'.heap.size := by have := hbx4.size; simp only [World.size_alloc] at this; omega
        have HLN := Lib.hid (show (ks.map (fmtG d) ++ [sn]).length = ks.length + 1 by rw [List.length_append, tx_len]; rfl)
        have HLM := Lib.hid (show ∀ x ∈ ks.map (fmtG d) ++ [sn], x.length ≤ 171798691840 from fun x hx => by
          rcases List.mem_append.1 hx with h | h
          · exact HLK2.out x h
          · cases List.mem_singleton.1 h; omega)
        have HF2 := Lib.hid (show fmtG (d + 1) (.mk op n nm ks) = sw ++ [40] ++ commaL (ks.map (fmtG d) ++ [sn]) ++ [41] by
          rw [HF.out, comma_snoc _ _ (List.ne_nil_of_length_pos (by rw [tx_len]; omega))]
          simp)
        clear HOW HBW HBX HBQ HF hown' hbel' hbx4 HO5 HB5
        generalize ks.map (fmtG d) ++ [sn] = L at *
        obtain ⟨g3, hA3, hlo3, hlt3, hcell⟩ := strs_cell HOW2.out HLN.out (show 0 < (ks.length + 1) by omega)
        subst hA3
        have hbn := box_below w' (Obj.cells #[.int .i64 5, .int .i64 6, .int .i64 7, .int .i64 8, .int .i64 9, .int .i64 10, .int .i64 11, .int .i64 12] 3)
        have HCL := Lib.hid (fun i hi => cell_below (hcell i hi) hbn)
        have HBN := Lib.hid (below_two HBW2.out hbn HBW2.out.size)
        have HXN := Lib.hid (HX2.out.below hbn)
        have HI := Lib.hid (show ∀ j, j < 8 → (w'.alloc (Obj.cells #[.int .i64 5, .int .i64 6, .int .i64 7, .int .i64 8, .int .i64 9, .int .i64 10, .int .i64 11, .int .i64 12] 3)).cell? ⟨w'.heap.size, j, Option.none⟩ = some (.int .i64 ((j : Int) + 5)) from fun j hj => (ints_at w' infOps hj).trans (by rw [inf_at hj]))
        have hzl : w'.heap.size < (w'.alloc (Obj.cells #[.int .i64 5, .int .i64 6, .int .i64 7, .int .i64 8, .int .i64 9, .int .i64 10, .int .i64 11, .int .i64 12] 3)).heap.size := by simp only [World.size_alloc]; omega
        clear hcell hbn
        go_wp2
        clear x0 x1 x2 x3
        generalize w'.alloc (Obj.cells #[.int .i64 5, .int .i64 6, .int .i64 7, .int .i64 8, .int .i64 9, .int .i64 10, .int .i64 11, .int .i64 12] 3) = W60 at *
        go_loopg [62] 9 (fun g v wq => InR W60 op g v wq)
        case atStart => exact ⟨0, by omega, by omega, rfl, fun j h => absurd h (Nat.not_lt_zero _), rfl⟩
        case round =>
          rename World => wq
          obtain ⟨k, hk, hg, rfl, hall, rfl⟩ := hrel
          have HALL := Lib.hid hall
          clear hall
          obtain ⟨x0, x1, x2, x3, -, -, -, -⟩ := HXN.out.cells
          by_cases hlt : k < 8
          case pos =>
            have hc := HI.out k hlt
            have hkI : (k : Int) < 8 := by omega
            have e5 : ((k : Int) + 5 == op) = false := by simp; omega
            have HNE := Lib.hid (show ¬ ((k : Int) + 5 = op) by omega)
            go_wp2
            go_roundg (8 - k)
            case measure => omega
            case rel => exact ⟨k + 1, by omega, by omega, by go_num, upto_succT (P := fun j => ¬ ((j : Int) + 5 = op)) HALL.out HNE.out, rfl⟩
          obtain rfl : k = 8 := by omega
          clear HALL HI
          go_wp2_with fail
          refine (rwords_any _).mono ?_
          rintro e w7 ⟨bw, cw, rfl, hWd, hb7⟩
          have HWD := Lib.hid hWd
          have HB7 := Lib.hid (below_two HBN.out hb7 HBN.out.size)
          have HX7 := Lib.hid (HXN.out.below hb7)
          have HCL7 := Lib.hid (fun i hi => cell_below (HCL.out i hi) hb7)
          clear hWd hb7 x0 x1 x2 x3 HXN HCL HBN
          go_wp2
          go_loopg [10, 94] 17 (fun g u v wq => WoR w7 op g u v wq)
          case atStart => exact ⟨0, 0, [], by omega, by omega, rfl, rfl, rfl, rfl⟩
          case round =>
            rename World => wp
            obtain ⟨k, m, x, hk, hg2, rfl, rfl, hx, rfl⟩ := hrel
            have HXE := Lib.hid hx
            clear hx
            obtain ⟨x0, x1, x2, x3, -, -, -, -⟩ := HX7.out.cells
            by_cases hlt : k < 16
            case pos =>
              have hc1 := HWD.out.op hlt
              have hc2 := HWD.out.word hlt
              obtain ⟨ov, hov⟩ : ∃ ov, resOps.getD k 0 = ov := ⟨_, rfl⟩
              obtain ⟨sv, hsv⟩ : ∃ sv, resWords.getD k [] = sv := ⟨_, rfl⟩
              rw [hov] at hc1
              rw [hsv] at hc2
              have hkI : (k : Int) < 16 := by omega
              have HN := Lib.hid (show wordAt op (k + 1) = if ov = op then sv else x by rw [HXE.out, ← hov, ← hsv]; rfl)
              clear hov hsv
              by_cases hv : ov = op
              · have e1 : (ov == op) = true := by simp [hv]
                have HN2 := Lib.hid (HN.out.trans (if_pos hv))
                clear hv
                go_wp2_with fail
                go_quiet (fail)
                go_wp2
                go_roundg (16 - k)
                case measure => omega
                case rel => exact ⟨k + 1, _, sv, by omega, by omega, by go_num, rfl, HN2.out.symm, rfl⟩
              · have e1 : (ov == op) = false := by simp [hv]
                have HN2 := Lib.hid (HN.out.trans (if_neg hv))
                clear hv
                go_wp2_with fail
                go_quiet (fail)
                go_wp2
                go_roundg (16 - k)
                case measure => omega
                case rel => exact ⟨k + 1, _, x, by omega, by omega, by go_num, rfl, HN2.out.symm, rfl⟩
            obtain rfl : k = 16 := by omega
            obtain rfl : x = sw := by rw [HXE.out, HWE.out]
            have HCL8 := Lib.hid (fun i hi => cell_below (HCL7.out i hi) (below_drewN (Below.refl w7.heap.size w7) m))
            have HB8 := Lib.hid (below_drewN HB7.out m)
            have hcat : ({ data := x.toArray } : ByteArray) ++ { data := #[40] } = ⟨(x ++ [40]).toArray⟩ := cat_list x [40]
            obtain ⟨s0, hs0⟩ : ∃ s0, x ++ [40] = s0 := ⟨_, rfl⟩
            have hs0l : s0.length ≤ 6 := by rw [← hs0, List.length_append]; simp; omega
            rw [hs0] at hcat
            have HS0 := Lib.hid hs0
            clear hs0 HCL7 HB7 HWD HX7 HXE x0 x1 x2 x3
            generalize w7.drewN m = W8 at *
            go_wp2
            clear hcat
            go_loopg [10, 113] ((ks.length + 1) + 1) (fun g u v wq => JoR W8 s0 L (ks.length + 1) g u v wq)
            case atStart => exact ⟨0, s0, Nat.zero_le _, by omega, rfl, rfl, rfl, rfl⟩
            case round =>
              rename World => wo
              obtain ⟨k, y, hk, hg2, rfl, rfl, hy, rfl⟩ := hrel
              have HYE := Lib.hid hy
              have hyl : y.length ≤ 700000000000 := by
                have h1 := join_len (s := s0) HLM.out k (by rw [HLN.out]; exact hk)
                rw [← hy] at h1
                have h2 : k * (171798691840 + 2) ≤ 4 * (171798691840 + 2) := Nat.mul_le_mul_right _ (by omega)
                omega
              clear hy
              by_cases hlt : k < (ks.length + 1)
              case pos =>
                have hc := HCL8.out k hlt
                obtain ⟨lk, hlk⟩ : ∃ lk, L.getD k [] = lk := ⟨_, rfl⟩
                have hlkl : lk.length ≤ 171798691840 := by
                  have hl : k < L.length := by rw [HLN.out]; exact hlt
                  rw [← hlk, List.getD_eq_getElem?_getD, List.getElem?_eq_getElem hl]
                  exact HLM.out _ (List.getElem_mem hl)
                rw [hlk] at hc
                have HN := Lib.hid (show joinAt s0 L (k + 1) = (if 0 < k then y ++ [44, 32] else y) ++ lk by rw [HYE.out, ← hlk]; rfl)
                have hkI : (k : Int) < (((ks.length + 1) : Nat) : Int) := by omega
                clear hlk
                by_cases hk0 : 0 < k
                · have hk1 : (0 : Int) < (k : Int) := by omega
                  have HN2 := Lib.hid (HN.out.trans (by rw [if_pos hk0]))
                  have hcat1 : ({ data := y.toArray } : ByteArray) ++ { data := #[44, 32] } = ⟨(y ++ [44, 32]).toArray⟩ := cat_list y [44, 32]
                  have hcat2 : ({ data := (y ++ [44, 32]).toArray } : ByteArray) ++ { data := lk.toArray } = ⟨(y ++ [44, 32] ++ lk).toArray⟩ := cat_list (y ++ [44, 32]) lk
                  obtain ⟨y1, hy1⟩ : ∃ y1, y ++ [44, 32] = y1 := ⟨_, rfl⟩
                  have hy1l : y1.length ≤ 700000000002 := by rw [← hy1, List.length_append]; simp; omega
                  rw [hy1] at hcat1 hcat2
                  have HY1 := Lib.hid hy1
                  clear hy1
                  go_wp2
                  go_roundg ((ks.length + 1) - k)
                  case measure => omega
                  case rel => exact ⟨k + 1, y1 ++ lk, by omega, by omega, by go_num, rfl, by rw [HN2.out, HY1.out], rfl⟩
                · obtain rfl : k = 0 := by omega
                  have HN2 := Lib.hid (HN.out.trans (by rw [if_neg hk0]))
                  have hcat1 : ({ data := y.toArray } : ByteArray) ++ { data := lk.toArray } = ⟨(y ++ lk).toArray⟩ := cat_list y lk
                  go_wp2
                  go_roundg ((ks.length + 1) - 0)
                  case measure => omega
                  case rel => exact ⟨1, y ++ lk, by omega, by omega, by go_num, rfl, by rw [HN2.out], rfl⟩
              obtain rfl : k = (ks.length + 1) := by omega
              have HFF := Lib.hid (show y ++ [41] = fmtG (d + 1) (.mk op n nm ks) by rw [HF2.out, HYE.out, ← HLN.out, join_end, ← HS0.out])
              go_wp2
              go_ret
              exact ⟨ret_str (by rw [← HFF.out]; simp), HB8.out⟩
end Go.Proofs.YtmbmngnnfkdngaaDoor
