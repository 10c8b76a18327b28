/-
  The reference's text: operations without an operator or with not.
-/
import Derived.Test.YtmbmngnnfkdngaaDoorRTxP
namespace Go.Proofs.YtmbmngnnfkdngaaDoor
open Go.RowKit

set_option maxRecDepth 100000 in
set_option maxHeartbeats 8000000 in
theorem text_small (d : Nat) (ih0 : TxOk d) (op n : Int) (nm : List UInt8) (A : Option Addr) (c : Nat) (ks : List Ex) (w : World) (hd : d + 1 ≤ 16) (hok : okG (d + 1) (.mk op n nm ks)) (_hc : ks.length ≤ c) (_hm : c ≤ maxLen) (hr : Rw ExV 4 w (fun b => b < w.heap.size) A ks.length ks) (hcl : op ≤ 4) :
    Calls Tryd.prog 38 #[exV op n nm A ks.length c] w (RetStr (fmtG (d + 1) (.mk op n nm ks)) w) := by
    have ih := fun op n nm A c ks w => ih0 op n nm A c ks w (by omega)
    have hlenK : ∀ k ∈ ks, (fmtG d k).length ≤ 171798691840 := fun k hk => Nat.le_trans (fmt_len d k (hok.2 k hk)) (fmt_pow (by omega))
    obtain ⟨hnode, hkids⟩ := hok
    obtain ⟨hna, hn3, hn4⟩ := node_parts hnode
    obtain ⟨hop1, hop2⟩ := arity_range hna
    have har := arity_le op
    have hk3 : ks.length ≤ 3 := by omega
    have hml := most_le op
    have hX := XV.new w op n nm A ks.length c
    have hb1 := box_below w (Obj.cells #[.int .i64 op, .int .i64 n, .string ⟨nm.toArray⟩, .slice A ks.length c] 24)
    have HIH := Lib.hid ih
    have HK := Lib.hid hkids
    have HR := Lib.hid hr
    have HX := Lib.hid hX
    have HB := Lib.hid hb1
    have HNA := Lib.hid hna
    have HN3 := Lib.hid hn3
    have HN4 := Lib.hid hn4
    have HLK := Lib.hid hlenK
    have HML := Lib.hid hml
    obtain ⟨i, hi, hz0, hz1, hz2⟩ := info_parts infoStr
    have HI1 := Lib.hid hi
    have HI2 := Lib.hid hz0
    have HI3 := Lib.hid hz1
    have HI4 := Lib.hid hz2
    clear ih hkids hr hX hb1 hnode hna hn3 hn4 hlenK hml har hi hz0 hz1 hz2
    have hm := _hm
    unfold maxLen at hm
    unfold exV
    by_cases e1 : op = 1
    · subst e1
      obtain ⟨-, n0, n1⟩ := HN4.out (by decide)
      have hF : fmtG (d + 1) (.mk 1 n nm ks) = if n = 1 then [116, 114, 117, 101] else [102, 97, 108, 115, 101] := rfl
      have HF := Lib.hid hF
      have hm1 : mostP 1 = 1 := by decide
      rw [hm1] at n1
      have hn01 : n = 0 ∨ n = 1 := by omega
      clear hF n0 n1 hm1
      rcases hn01 with rfl | rfl
      ·
        go_enter Tryd.func38, Tryd.ntmps38
        go_wp2
        go_loopg [3, 16] (ks.length + 1) (fun g u v wr => TxR w d ks (w.alloc (Obj.cells #[.int .i64 1, .int .i64 0, .string ⟨nm.toArray⟩, .slice A ks.length c] 24)) g u v wr)
        case atStart => exact ⟨0, Nat.zero_le _, by omega, rfl, World.ownsRow_nil _ _ _ _, Below.refl _ _⟩
        case round =>
          obtain ⟨k, hk, hgk, rfl, hown, hbq⟩ := hrel
          obtain ⟨A3, c3, rfl, hc3, hm3⟩ := own_shape hown
          have hbx0 : Below (w.alloc (Obj.cells #[.int .i64 1, .int .i64 0, .string ⟨nm.toArray⟩, .slice A ks.length c] 24)).heap.size (w.alloc (Obj.cells #[.int .i64 1, .int .i64 0, .string ⟨nm.toArray⟩, .slice A ks.length c] 24)) wr := hbq.mono (by rw [World.size_alloc]; exact Nat.le_refl _)
          have hbel := below_two HB.out hbx0 HB.out.size
          have hsw := hbx0.size
          simp only [World.size_alloc] at hsw
          have hzz : w.heap.size < wr.heap.size := by omega
          unfold maxLen at hm3
          by_cases hlt : k < ks.length
          case pos =>
            obtain ⟨b, o, op2, n2, nm2, A2, c2, ys, hA, hSb, hky, hc2, hm2, hp2, hr2, hxb⟩ := exAt (HR.out.mono ExV.mono (fun _ q => q) (keepOn_below hbel fun _ q => q)) hlt
            subst hA
            obtain ⟨y0, y1, y2, y3⟩ := hxb
            have hbx := box_below wr (Obj.cells #[.int .i64 op2, .int .i64 n2, .string ⟨nm2.toArray⟩, .slice A2 ys.length c2] 24)
            have hin : Ex.mk op2 n2 nm2 ys ∈ ks := List.mem_of_getElem? hky
            have hbx2 := below_two hbel hbx hbel.size
            have C := HIH.out op2 n2 nm2 A2 c2 ys (wr.alloc (Obj.cells #[.int .i64 op2, .int .i64 n2, .string ⟨nm2.toArray⟩, .slice A2 ys.length c2] 24)) (HK.out _ hin) hc2 hm2
              (hr2.mono ExV.mono (fun b hb => by simp only [World.size_alloc]; omega) (keepOn_below hbx fun b hb => by omega))
            have hsn := tx_snoc (d := d) hky
            generalize fmtG d (.mk op2 n2 nm2 ys) = s2 at *
            unfold exV at C
            have HC := Lib.hid C
            have HSN := Lib.hid hsn
            have HB3 := Lib.hid (hbq.alloc (show w.heap.size + 1 ≤ wr.heap.size from hsw) (Obj.cells #[.int .i64 op2, .int .i64 n2, .string ⟨nm2.toArray⟩, .slice A2 ys.length c2] 24))
            have HO2 := Lib.hid (hown.alloc (Obj.cells #[.int .i64 op2, .int .i64 n2, .string ⟨nm2.toArray⟩, .slice A2 ys.length c2] 24))
            have hbk : b < wr.heap.size := by omega
            clear C hsn hbx hbx2 hown hbel hky hr2 hin hp2 hSb hbq hbx0
            unfold maxLen at hm2
            go_wp2_with fail
            refine HC.out.mono ?_
            rintro e w5 ⟨rfl, hb5⟩
            have hs5 := hb5.size
            simp only [World.size_alloc] at hs5
            have HB5 := Lib.hid (HB3.out.trans (hb5.mono (by simp only [World.size_alloc]; omega)))
            have HO5 := Lib.hid (own_below HO2.out hb5 (Nat.le_refl _))
            have hsz5 : w.heap.size + 1 ≤ w5.heap.size := by omega
            clear hb5
            go_wp2_with (at_builtin; refine wpList_push (o := ⟨some 24, _, _, _, _, _⟩) _ _ 46 rfl rfl Tryd.underlying46 HI1.out HI2.out HI3.out HI4.out rfl (by decide) rfl HO5.out HB5.out _ rfl rfl rfl (by simp [Value.oneCell']) (by omega) (by unfold maxLen; omega) hsz5 ?_; intro v' w' hown' hbel' _)
            rw [strs_snoc, HSN.out] at hown'
            have HO6 := Lib.hid hown'
            have HB6 := Lib.hid hbel'
            clear hown' hbel'
            go_wp2
            go_roundg (ks.length - k)
            case measure => omega
            case rel => exact ⟨k + 1, by omega, by omega, by go_num, HO6.out, HB6.out⟩
          obtain rfl : k = ks.length := by omega
          obtain ⟨x0, x1, x2, x3, -, -, -, -⟩ := (HX.out.below hbx0).cells
          rw [List.take_length] at hown
          have HOW := Lib.hid hown
          have HBQ := Lib.hid hbq
          have HBW := Lib.hid hbel
          have HBX := Lib.hid hbx0
          clear hown hbq hbel hbx0
          go_wp2
          go_ret
          exact ⟨ret_strL (by rw [HF.out]; rfl), HBW.out.alloc HBW.out.size _⟩
      ·
        go_enter Tryd.func38, Tryd.ntmps38
        go_wp2
        go_loopg [3, 16] (ks.length + 1) (fun g u v wr => TxR w d ks (w.alloc (Obj.cells #[.int .i64 1, .int .i64 1, .string ⟨nm.toArray⟩, .slice A ks.length c] 24)) g u v wr)
        case atStart => exact ⟨0, Nat.zero_le _, by omega, rfl, World.ownsRow_nil _ _ _ _, Below.refl _ _⟩
        case round =>
          obtain ⟨k, hk, hgk, rfl, hown, hbq⟩ := hrel
          obtain ⟨A3, c3, rfl, hc3, hm3⟩ := own_shape hown
          have hbx0 : Below (w.alloc (Obj.cells #[.int .i64 1, .int .i64 1, .string ⟨nm.toArray⟩, .slice A ks.length c] 24)).heap.size (w.alloc (Obj.cells #[.int .i64 1, .int .i64 1, .string ⟨nm.toArray⟩, .slice A ks.length c] 24)) wr := hbq.mono (by rw [World.size_alloc]; exact Nat.le_refl _)
          have hbel := below_two HB.out hbx0 HB.out.size
          have hsw := hbx0.size
          simp only [World.size_alloc] at hsw
          have hzz : w.heap.size < wr.heap.size := by omega
          unfold maxLen at hm3
          by_cases hlt : k < ks.length
          case pos =>
            obtain ⟨b, o, op2, n2, nm2, A2, c2, ys, hA, hSb, hky, hc2, hm2, hp2, hr2, hxb⟩ := exAt (HR.out.mono ExV.mono (fun _ q => q) (keepOn_below hbel fun _ q => q)) hlt
            subst hA
            obtain ⟨y0, y1, y2, y3⟩ := hxb
            have hbx := box_below wr (Obj.cells #[.int .i64 op2, .int .i64 n2, .string ⟨nm2.toArray⟩, .slice A2 ys.length c2] 24)
            have hin : Ex.mk op2 n2 nm2 ys ∈ ks := List.mem_of_getElem? hky
            have hbx2 := below_two hbel hbx hbel.size
            have C := HIH.out op2 n2 nm2 A2 c2 ys (wr.alloc (Obj.cells #[.int .i64 op2, .int .i64 n2, .string ⟨nm2.toArray⟩, .slice A2 ys.length c2] 24)) (HK.out _ hin) hc2 hm2
              (hr2.mono ExV.mono (fun b hb => by simp only [World.size_alloc]; omega) (keepOn_below hbx fun b hb => by omega))
            have hsn := tx_snoc (d := d) hky
            generalize fmtG d (.mk op2 n2 nm2 ys) = s2 at *
            unfold exV at C
            have HC := Lib.hid C
            have HSN := Lib.hid hsn
            have HB3 := Lib.hid (hbq.alloc (show w.heap.size + 1 ≤ wr.heap.size from hsw) (Obj.cells #[.int .i64 op2, .int .i64 n2, .string ⟨nm2.toArray⟩, .slice A2 ys.length c2] 24))
            have HO2 := Lib.hid (hown.alloc (Obj.cells #[.int .i64 op2, .int .i64 n2, .string ⟨nm2.toArray⟩, .slice A2 ys.length c2] 24))
            have hbk : b < wr.heap.size := by omega
            clear C hsn hbx hbx2 hown hbel hky hr2 hin hp2 hSb hbq hbx0
            unfold maxLen at hm2
            go_wp2_with fail
            refine HC.out.mono ?_
            rintro e w5 ⟨rfl, hb5⟩
            have hs5 := hb5.size
            simp only [World.size_alloc] at hs5
            have HB5 := Lib.hid (HB3.out.trans (hb5.mono (by simp only [World.size_alloc]; omega)))
            have HO5 := Lib.hid (own_below HO2.out hb5 (Nat.le_refl _))
            have hsz5 : w.heap.size + 1 ≤ w5.heap.size := by omega
            clear hb5
            go_wp2_with (at_builtin; refine wpList_push (o := ⟨some 24, _, _, _, _, _⟩) _ _ 46 rfl rfl Tryd.underlying46 HI1.out HI2.out HI3.out HI4.out rfl (by decide) rfl HO5.out HB5.out _ rfl rfl rfl (by simp [Value.oneCell']) (by omega) (by unfold maxLen; omega) hsz5 ?_; intro v' w' hown' hbel' _)
            rw [strs_snoc, HSN.out] at hown'
            have HO6 := Lib.hid hown'
            have HB6 := Lib.hid hbel'
            clear hown' hbel'
            go_wp2
            go_roundg (ks.length - k)
            case measure => omega
            case rel => exact ⟨k + 1, by omega, by omega, by go_num, HO6.out, HB6.out⟩
          obtain rfl : k = ks.length := by omega
          obtain ⟨x0, x1, x2, x3, -, -, -, -⟩ := (HX.out.below hbx0).cells
          rw [List.take_length] at hown
          have HOW := Lib.hid hown
          have HBQ := Lib.hid hbq
          have HBW := Lib.hid hbel
          have HBX := Lib.hid hbx0
          clear hown hbq hbel hbx0
          go_wp2
          go_ret
          exact ⟨ret_strL (by rw [HF.out]; rfl), HBW.out.alloc HBW.out.size _⟩
    have HE1 := Lib.hid e1
    have o1 : (op == 1) = false := by simp [e1]
    clear e1
    by_cases e2 : op = 2
    · subst e2
      obtain ⟨-, n0, n1⟩ := HN4.out (by decide)
      have hm2 : mostP 2 = 32767 := by decide
      rw [hm2] at n1
      have hF : fmtG (d + 1) (.mk 2 n nm ks) = Lib.itoa n := rfl
      have C2 := fun W => rnumberI_any n n0 (by omega) W
      generalize Lib.itoa n = sn at *
      have HF := Lib.hid hF
      have HC2 := Lib.hid C2
      clear hF hm2 C2
      go_enter Tryd.func38, Tryd.ntmps38
      go_wp2
      go_loopg [3, 16] (ks.length + 1) (fun g u v wr => TxR w d ks (w.alloc (Obj.cells #[.int .i64 2, .int .i64 n, .string ⟨nm.toArray⟩, .slice A ks.length c] 24)) g u v wr)
      case atStart => exact ⟨0, Nat.zero_le _, by omega, rfl, World.ownsRow_nil _ _ _ _, Below.refl _ _⟩
      case round =>
        obtain ⟨k, hk, hgk, rfl, hown, hbq⟩ := hrel
        obtain ⟨A3, c3, rfl, hc3, hm3⟩ := own_shape hown
        have hbx0 : Below (w.alloc (Obj.cells #[.int .i64 2, .int .i64 n, .string ⟨nm.toArray⟩, .slice A ks.length c] 24)).heap.size (w.alloc (Obj.cells #[.int .i64 2, .int .i64 n, .string ⟨nm.toArray⟩, .slice A ks.length c] 24)) wr := hbq.mono (by rw [World.size_alloc]; exact Nat.le_refl _)
        have hbel := below_two HB.out hbx0 HB.out.size
        have hsw := hbx0.size
        simp only [World.size_alloc] at hsw
        have hzz : w.heap.size < wr.heap.size := by omega
        unfold maxLen at hm3
        by_cases hlt : k < ks.length
        case pos =>
          obtain ⟨b, o, op2, n2, nm2, A2, c2, ys, hA, hSb, hky, hc2, hm2, hp2, hr2, hxb⟩ := exAt (HR.out.mono ExV.mono (fun _ q => q) (keepOn_below hbel fun _ q => q)) hlt
          subst hA
          obtain ⟨y0, y1, y2, y3⟩ := hxb
          have hbx := box_below wr (Obj.cells #[.int .i64 op2, .int .i64 n2, .string ⟨nm2.toArray⟩, .slice A2 ys.length c2] 24)
          have hin : Ex.mk op2 n2 nm2 ys ∈ ks := List.mem_of_getElem? hky
          have hbx2 := below_two hbel hbx hbel.size
          have C := HIH.out op2 n2 nm2 A2 c2 ys (wr.alloc (Obj.cells #[.int .i64 op2, .int .i64 n2, .string ⟨nm2.toArray⟩, .slice A2 ys.length c2] 24)) (HK.out _ hin) hc2 hm2
            (hr2.mono ExV.mono (fun b hb => by simp only [World.size_alloc]; omega) (keepOn_below hbx fun b hb => by omega))
          have hsn := tx_snoc (d := d) hky
          generalize fmtG d (.mk op2 n2 nm2 ys) = s2 at *
          unfold exV at C
          have HC := Lib.hid C
          have HSN := Lib.hid hsn
          have HB3 := Lib.hid (hbq.alloc (show w.heap.size + 1 ≤ wr.heap.size from hsw) (Obj.cells #[.int .i64 op2, .int .i64 n2, .string ⟨nm2.toArray⟩, .slice A2 ys.length c2] 24))
          have HO2 := Lib.hid (hown.alloc (Obj.cells #[.int .i64 op2, .int .i64 n2, .string ⟨nm2.toArray⟩, .slice A2 ys.length c2] 24))
          have hbk : b < wr.heap.size := by omega
          clear C hsn hbx hbx2 hown hbel hky hr2 hin hp2 hSb hbq hbx0
          unfold maxLen at hm2
          go_wp2_with fail
          refine HC.out.mono ?_
          rintro e w5 ⟨rfl, hb5⟩
          have hs5 := hb5.size
          simp only [World.size_alloc] at hs5
          have HB5 := Lib.hid (HB3.out.trans (hb5.mono (by simp only [World.size_alloc]; omega)))
          have HO5 := Lib.hid (own_below HO2.out hb5 (Nat.le_refl _))
          have hsz5 : w.heap.size + 1 ≤ w5.heap.size := by omega
          clear hb5
          go_wp2_with (at_builtin; refine wpList_push (o := ⟨some 24, _, _, _, _, _⟩) _ _ 46 rfl rfl Tryd.underlying46 HI1.out HI2.out HI3.out HI4.out rfl (by decide) rfl HO5.out HB5.out _ rfl rfl rfl (by simp [Value.oneCell']) (by omega) (by unfold maxLen; omega) hsz5 ?_; intro v' w' hown' hbel' _)
          rw [strs_snoc, HSN.out] at hown'
          have HO6 := Lib.hid hown'
          have HB6 := Lib.hid hbel'
          clear hown' hbel'
          go_wp2
          go_roundg (ks.length - k)
          case measure => omega
          case rel => exact ⟨k + 1, by omega, by omega, by go_num, HO6.out, HB6.out⟩
        obtain rfl : k = ks.length := by omega
        obtain ⟨x0, x1, x2, x3, -, -, -, -⟩ := (HX.out.below hbx0).cells
        rw [List.take_length] at hown
        have HOW := Lib.hid hown
        have HBQ := Lib.hid hbq
        have HBW := Lib.hid hbel
        have HBX := Lib.hid hbx0
        clear hown hbq hbel hbx0
        go_wp2_with fail
        refine (HC2.out _).mono ?_
        rintro e w5 ⟨rfl, hb5⟩
        go_wp2
        go_ret
        exact ⟨ret_strL (by rw [HF.out]), below_two HBW.out hb5 HBW.out.size⟩
    have HE2 := Lib.hid e2
    have o2 : (op == 2) = false := by simp [e2]
    clear e2
    by_cases e3 : op = 3
    · subst e3
      have hF : fmtG (d + 1) (.mk 3 n nm ks) = nm := rfl
      have HF := Lib.hid hF
      clear hF
      go_enter Tryd.func38, Tryd.ntmps38
      go_wp2
      go_loopg [3, 16] (ks.length + 1) (fun g u v wr => TxR w d ks (w.alloc (Obj.cells #[.int .i64 3, .int .i64 n, .string ⟨nm.toArray⟩, .slice A ks.length c] 24)) g u v wr)
      case atStart => exact ⟨0, Nat.zero_le _, by omega, rfl, World.ownsRow_nil _ _ _ _, Below.refl _ _⟩
      case round =>
        obtain ⟨k, hk, hgk, rfl, hown, hbq⟩ := hrel
        obtain ⟨A3, c3, rfl, hc3, hm3⟩ := own_shape hown
        have hbx0 : Below (w.alloc (Obj.cells #[.int .i64 3, .int .i64 n, .string ⟨nm.toArray⟩, .slice A ks.length c] 24)).heap.size (w.alloc (Obj.cells #[.int .i64 3, .int .i64 n, .string ⟨nm.toArray⟩, .slice A ks.length c] 24)) wr := hbq.mono (by rw [World.size_alloc]; exact Nat.le_refl _)
        have hbel := below_two HB.out hbx0 HB.out.size
        have hsw := hbx0.size
        simp only [World.size_alloc] at hsw
        have hzz : w.heap.size < wr.heap.size := by omega
        unfold maxLen at hm3
        by_cases hlt : k < ks.length
        case pos =>
          obtain ⟨b, o, op2, n2, nm2, A2, c2, ys, hA, hSb, hky, hc2, hm2, hp2, hr2, hxb⟩ := exAt (HR.out.mono ExV.mono (fun _ q => q) (keepOn_below hbel fun _ q => q)) hlt
          subst hA
          obtain ⟨y0, y1, y2, y3⟩ := hxb
          have hbx := box_below wr (Obj.cells #[.int .i64 op2, .int .i64 n2, .string ⟨nm2.toArray⟩, .slice A2 ys.length c2] 24)
          have hin : Ex.mk op2 n2 nm2 ys ∈ ks := List.mem_of_getElem? hky
          have hbx2 := below_two hbel hbx hbel.size
          have C := HIH.out op2 n2 nm2 A2 c2 ys (wr.alloc (Obj.cells #[.int .i64 op2, .int .i64 n2, .string ⟨nm2.toArray⟩, .slice A2 ys.length c2] 24)) (HK.out _ hin) hc2 hm2
            (hr2.mono ExV.mono (fun b hb => by simp only [World.size_alloc]; omega) (keepOn_below hbx fun b hb => by omega))
          have hsn := tx_snoc (d := d) hky
          generalize fmtG d (.mk op2 n2 nm2 ys) = s2 at *
          unfold exV at C
          have HC := Lib.hid C
          have HSN := Lib.hid hsn
          have HB3 := Lib.hid (hbq.alloc (show w.heap.size + 1 ≤ wr.heap.size from hsw) (Obj.cells #[.int .i64 op2, .int .i64 n2, .string ⟨nm2.toArray⟩, .slice A2 ys.length c2] 24))
          have HO2 := Lib.hid (hown.alloc (Obj.cells #[.int .i64 op2, .int .i64 n2, .string ⟨nm2.toArray⟩, .slice A2 ys.length c2] 24))
          have hbk : b < wr.heap.size := by omega
          clear C hsn hbx hbx2 hown hbel hky hr2 hin hp2 hSb hbq hbx0
          unfold maxLen at hm2
          go_wp2_with fail
          refine HC.out.mono ?_
          rintro e w5 ⟨rfl, hb5⟩
          have hs5 := hb5.size
          simp only [World.size_alloc] at hs5
          have HB5 := Lib.hid (HB3.out.trans (hb5.mono (by simp only [World.size_alloc]; omega)))
          have HO5 := Lib.hid (own_below HO2.out hb5 (Nat.le_refl _))
          have hsz5 : w.heap.size + 1 ≤ w5.heap.size := by omega
          clear hb5
          go_wp2_with (at_builtin; refine wpList_push (o := ⟨some 24, _, _, _, _, _⟩) _ _ 46 rfl rfl Tryd.underlying46 HI1.out HI2.out HI3.out HI4.out rfl (by decide) rfl HO5.out HB5.out _ rfl rfl rfl (by simp [Value.oneCell']) (by omega) (by unfold maxLen; omega) hsz5 ?_; intro v' w' hown' hbel' _)
          rw [strs_snoc, HSN.out] at hown'
          have HO6 := Lib.hid hown'
          have HB6 := Lib.hid hbel'
          clear hown' hbel'
          go_wp2
          go_roundg (ks.length - k)
          case measure => omega
          case rel => exact ⟨k + 1, by omega, by omega, by go_num, HO6.out, HB6.out⟩
        obtain rfl : k = ks.length := by omega
        obtain ⟨x0, x1, x2, x3, -, -, -, -⟩ := (HX.out.below hbx0).cells
        rw [List.take_length] at hown
        have HOW := Lib.hid hown
        have HBQ := Lib.hid hbq
        have HBW := Lib.hid hbel
        have HBX := Lib.hid hbx0
        clear hown hbq hbel hbx0
        go_wp2
        go_ret
        exact ⟨ret_strL (by rw [HF.out]), HBW.out⟩
    have HE3 := Lib.hid e3
    have o3 : (op == 3) = false := by simp [e3]
    clear e3
    by_cases e4 : op = 4
    · subst e4
      have hl1 : ks.length = 1 := by have := HNA.out; have h4 : arityP 4 = 1 := by decide
                                     omega
      have HL1 := Lib.hid hl1
      have hF : fmtG (d + 1) (.mk 4 n nm ks) = [40, 110, 111, 116, 32] ++ fmtG d (kid ks 0) ++ [41] := rfl
      have HF := Lib.hid hF
      have hp : 0 < ks.length := by omega
      clear hF hl1
      go_enter Tryd.func38, Tryd.ntmps38
      go_wp2
      go_loopg [3, 16] (ks.length + 1) (fun g u v wr => TxR w d ks (w.alloc (Obj.cells #[.int .i64 4, .int .i64 n, .string ⟨nm.toArray⟩, .slice A ks.length c] 24)) g u v wr)
      case atStart => exact ⟨0, Nat.zero_le _, by omega, rfl, World.ownsRow_nil _ _ _ _, Below.refl _ _⟩
      case round =>
        obtain ⟨k, hk, hgk, rfl, hown, hbq⟩ := hrel
        obtain ⟨A3, c3, rfl, hc3, hm3⟩ := own_shape hown
        have hbx0 : Below (w.alloc (Obj.cells #[.int .i64 4, .int .i64 n, .string ⟨nm.toArray⟩, .slice A ks.length c] 24)).heap.size (w.alloc (Obj.cells #[.int .i64 4, .int .i64 n, .string ⟨nm.toArray⟩, .slice A ks.length c] 24)) wr := hbq.mono (by rw [World.size_alloc]; exact Nat.le_refl _)
        have hbel := below_two HB.out hbx0 HB.out.size
        have hsw := hbx0.size
        simp only [World.size_alloc] at hsw
        have hzz : w.heap.size < wr.heap.size := by omega
        unfold maxLen at hm3
        by_cases hlt : k < ks.length
        case pos =>
          obtain ⟨b, o, op2, n2, nm2, A2, c2, ys, hA, hSb, hky, hc2, hm2, hp2, hr2, hxb⟩ := exAt (HR.out.mono ExV.mono (fun _ q => q) (keepOn_below hbel fun _ q => q)) hlt
          subst hA
          obtain ⟨y0, y1, y2, y3⟩ := hxb
          have hbx := box_below wr (Obj.cells #[.int .i64 op2, .int .i64 n2, .string ⟨nm2.toArray⟩, .slice A2 ys.length c2] 24)
          have hin : Ex.mk op2 n2 nm2 ys ∈ ks := List.mem_of_getElem? hky
          have hbx2 := below_two hbel hbx hbel.size
          have C := HIH.out op2 n2 nm2 A2 c2 ys (wr.alloc (Obj.cells #[.int .i64 op2, .int .i64 n2, .string ⟨nm2.toArray⟩, .slice A2 ys.length c2] 24)) (HK.out _ hin) hc2 hm2
            (hr2.mono ExV.mono (fun b hb => by simp only [World.size_alloc]; omega) (keepOn_below hbx fun b hb => by omega))
          have hsn := tx_snoc (d := d) hky
          generalize fmtG d (.mk op2 n2 nm2 ys) = s2 at *
          unfold exV at C
          have HC := Lib.hid C
          have HSN := Lib.hid hsn
          have HB3 := Lib.hid (hbq.alloc (show w.heap.size + 1 ≤ wr.heap.size from hsw) (Obj.cells #[.int .i64 op2, .int .i64 n2, .string ⟨nm2.toArray⟩, .slice A2 ys.length c2] 24))
          have HO2 := Lib.hid (hown.alloc (Obj.cells #[.int .i64 op2, .int .i64 n2, .string ⟨nm2.toArray⟩, .slice A2 ys.length c2] 24))
          have hbk : b < wr.heap.size := by omega
          clear C hsn hbx hbx2 hown hbel hky hr2 hin hp2 hSb hbq hbx0
          unfold maxLen at hm2
          go_wp2_with fail
          refine HC.out.mono ?_
          rintro e w5 ⟨rfl, hb5⟩
          have hs5 := hb5.size
          simp only [World.size_alloc] at hs5
          have HB5 := Lib.hid (HB3.out.trans (hb5.mono (by simp only [World.size_alloc]; omega)))
          have HO5 := Lib.hid (own_below HO2.out hb5 (Nat.le_refl _))
          have hsz5 : w.heap.size + 1 ≤ w5.heap.size := by omega
          clear hb5
          go_wp2_with (at_builtin; refine wpList_push (o := ⟨some 24, _, _, _, _, _⟩) _ _ 46 rfl rfl Tryd.underlying46 HI1.out HI2.out HI3.out HI4.out rfl (by decide) rfl HO5.out HB5.out _ rfl rfl rfl (by simp [Value.oneCell']) (by omega) (by unfold maxLen; omega) hsz5 ?_; intro v' w' hown' hbel' _)
          rw [strs_snoc, HSN.out] at hown'
          have HO6 := Lib.hid hown'
          have HB6 := Lib.hid hbel'
          clear hown' hbel'
          go_wp2
          go_roundg (ks.length - k)
          case measure => omega
          case rel => exact ⟨k + 1, by omega, by omega, by go_num, HO6.out, HB6.out⟩
        obtain rfl : k = ks.length := by omega
        obtain ⟨x0, x1, x2, x3, -, -, -, -⟩ := (HX.out.below hbx0).cells
        rw [List.take_length] at hown
        have HOW := Lib.hid hown
        have HBQ := Lib.hid hbq
        have HBW := Lib.hid hbel
        have HBX := Lib.hid hbx0
        clear hown hbq hbel hbx0
        obtain ⟨g3, hA3, hlo3, hlt3, hcell⟩ := strs_cell HOW.out (tx_len d ks) hp
        subst hA3
        have z0 := hcell 0 hp
        have hkl := HLK.out (kid ks 0) (kid_mem hp)
        rw [tx_kid hp] at z0
        generalize fmtG d (kid ks 0) = s0 at *
        clear hcell
        go_wp2
        go_ret
        exact ⟨ret_str (by rw [HF.out]; simp), HBW.out⟩
    have := HE1.out
    have := HE2.out
    have := HE3.out
    omega
end Go.Proofs.YtmbmngnnfkdngaaDoor
