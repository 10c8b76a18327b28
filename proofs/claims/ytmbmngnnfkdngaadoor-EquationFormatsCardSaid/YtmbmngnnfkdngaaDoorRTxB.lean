/-
  The reference's text: operators between their operands.
-/
import Derived.Test.YtmbmngnnfkdngaaDoorRTxP
namespace Go.Proofs.YtmbmngnnfkdngaaDoor
open Go.RowKit

set_option maxRecDepth 100000 in
set_option maxHeartbeats 8000000 in
theorem text_infix (d : Nat) (ih0 : TxOk d) (op n : Int) (nm : List UInt8) (A : Option Addr) (c : Nat) (ks : List Ex) (w : World) (hd : d + 1 ≤ 16) (hok : okG (d + 1) (.mk op n nm ks)) (_hc : ks.length ≤ c) (_hm : c ≤ maxLen) (hr : Rw ExV 4 w (fun b => b < w.heap.size) A ks.length ks) (hop5 : 5 ≤ op) (e5 : op ≤ 12) :
    Calls Tryd.prog 38 #[exV op n nm A ks.length c] w (RetStr (fmtG (d + 1) (.mk op n nm ks)) w) := by
    have ih := fun op n nm A c ks w => ih0 op n nm A c ks w (by omega)
    have hlenK : ∀ k ∈ ks, (fmtG d k).length ≤ 171798691840 := fun k hk => Nat.le_trans (fmt_len d k (hok.2 k hk)) (fmt_pow (by omega))
    obtain ⟨hnode, hkids⟩ := hok
    obtain ⟨hna, hn3, hn4⟩ := node_parts hnode
    obtain ⟨hop1, hop2⟩ := arity_range hna
    have har := arity_le op
    have hk3 : ks.length ≤ 3 := by omega
    have hml := most_le op
    have hX := XV.new w op n nm A ks.length c
    have hb1 := box_below w (Obj.cells #[.int .i64 op, .int .i64 n, .string ⟨nm.toArray⟩, .slice A ks.length c] 24)
    have HIH := Lib.hid ih
    have HK := Lib.hid hkids
    have HR := Lib.hid hr
    have HX := Lib.hid hX
    have HB := Lib.hid hb1
    have HNA := Lib.hid hna
    have HN3 := Lib.hid hn3
    have HN4 := Lib.hid hn4
    have HLK := Lib.hid hlenK
    have HML := Lib.hid hml
    obtain ⟨i, hi, hz0, hz1, hz2⟩ := info_parts infoStr
    have HI1 := Lib.hid hi
    have HI2 := Lib.hid hz0
    have HI3 := Lib.hid hz1
    have HI4 := Lib.hid hz2
    clear ih hkids hr hX hb1 hnode hna hn3 hn4 hlenK hml har hi hz0 hz1 hz2
    have hm := _hm
    unfold maxLen at hm
    unfold exV
    have e1 : ¬ op = 1 := by omega
    have e2 : ¬ op = 2 := by omega
    have e3 : ¬ op = 3 := by omega
    have e4 : ¬ op = 4 := by omega
    have HE1 := Lib.hid e1
    have HE2 := Lib.hid e2
    have HE3 := Lib.hid e3
    have HE4 := Lib.hid e4
    have o1 : (op == 1) = false := by simp [e1]
    have o2 : (op == 2) = false := by simp [e2]
    have o3 : (op == 3) = false := by simp [e3]
    have o4 : (op == 4) = false := by simp [e4]
    clear e1 e2 e3 e4
    · skip
      have hl2 : ks.length = 2 := by
        have : arityP op = 2 := by
          unfold arityP
          rw [if_neg (by omega), if_neg (by omega), if_neg (by omega), if_pos (by omega)]
        have := HNA.out
        omega
      have HL2 := Lib.hid hl2
      have hF : fmtG (d + 1) (.mk op n nm ks) = [40] ++ fmtG d (kid ks 0) ++ ([32] ++ wordP op ++ [32]) ++ fmtG d (kid ks 1) ++ [41] := by
        rw [fmtG_succ, if_neg HE1.out, if_neg HE2.out, if_neg HE3.out, if_neg HE4.out, if_pos (by unfold infixB; simp; omega)]
      have HF := Lib.hid hF
      have o19 : (op == 19) = false := by simp; omega
      have o20 : (op == 20) = false := by simp; omega
      have hp0 : 0 < ks.length := by omega
      have hp1 : 1 < ks.length := by omega
      clear hF hl2
      go_enter Tryd.func38, Tryd.ntmps38
      go_wp2
      go_loopg [3, 16] (ks.length + 1) (fun g u v wr => TxR w d ks (w.alloc (Obj.cells #[.int .i64 op, .int .i64 n, .string ⟨nm.toArray⟩, .slice A ks.length c] 24)) g u v wr)
      case atStart => exact ⟨0, Nat.zero_le _, by omega, rfl, World.ownsRow_nil _ _ _ _, Below.refl _ _⟩
      case round =>
        obtain ⟨k, hk, hgk, rfl, hown, hbq⟩ := hrel
        obtain ⟨A3, c3, rfl, hc3, hm3⟩ := own_shape hown
        have hbx0 : Below (w.alloc (Obj.cells #[.int .i64 op, .int .i64 n, .string ⟨nm.toArray⟩, .slice A ks.length c] 24)).heap.size (w.alloc (Obj.cells #[.int .i64 op, .int .i64 n, .string ⟨nm.toArray⟩, .slice A ks.length c] 24)) wr := hbq.mono (by rw [World.size_alloc]; exact Nat.le_refl _)
        have hbel := below_two HB.out hbx0 HB.out.size
        have hsw := hbx0.size
        simp only [World.size_alloc] at hsw
        have hzz : w.heap.size < wr.heap.size := by omega
        unfold maxLen at hm3
        by_cases hlt : k < ks.length
        case pos =>
          obtain ⟨b, o, op2, n2, nm2, A2, c2, ys, hA, hSb, hky, hc2, hm2, hp2, hr2, hxb⟩ := exAt (HR.out.mono ExV.mono (fun _ q => q) (keepOn_below hbel fun _ q => q)) hlt
          subst hA
          obtain ⟨y0, y1, y2, y3⟩ := hxb
          have hbx := box_below wr (Obj.cells #[.int .i64 op2, .int .i64 n2, .string ⟨nm2.toArray⟩, .slice A2 ys.length c2] 24)
          have hin : Ex.mk op2 n2 nm2 ys ∈ ks := List.mem_of_getElem? hky
          have hbx2 := below_two hbel hbx hbel.size
          have C := HIH.out op2 n2 nm2 A2 c2 ys (wr.alloc (Obj.cells #[.int .i64 op2, .int .i64 n2, .string ⟨nm2.toArray⟩, .slice A2 ys.length c2] 24)) (HK.out _ hin) hc2 hm2
            (hr2.mono ExV.mono (fun b hb => by simp only [World.size_alloc]; omega) (keepOn_below hbx fun b hb => by omega))
          have hsn := tx_snoc (d := d) hky
          generalize fmtG d (.mk op2 n2 nm2 ys) = s2 at *
          unfold exV at C
          have HC := Lib.hid C
          have HSN := Lib.hid hsn
          have HB3 := Lib.hid (hbq.alloc (show w.heap.size + 1 ≤ wr.heap.size from hsw) (Obj.cells #[.int .i64 op2, .int .i64 n2, .string ⟨nm2.toArray⟩, .slice A2 ys.length c2] 24))
          have HO2 := Lib.hid (hown.alloc (Obj.cells #[.int .i64 op2, .int .i64 n2, .string ⟨nm2.toArray⟩, .slice A2 ys.length c2] 24))
          have hbk : b < wr.heap.size := by omega
          clear C hsn hbx hbx2 hown hbel hky hr2 hin hp2 hSb hbq hbx0
          unfold maxLen at hm2
          go_wp2_with fail
          refine HC.out.mono ?_
          rintro e w5 ⟨rfl, hb5⟩
          have hs5 := hb5.size
          simp only [World.size_alloc] at hs5
          have HB5 := Lib.hid (HB3.out.trans (hb5.mono (by simp only [World.size_alloc]; omega)))
          have HO5 := Lib.hid (own_below HO2.out hb5 (Nat.le_refl _))
          have hsz5 : w.heap.size + 1 ≤ w5.heap.size := by omega
          clear hb5
          go_wp2_with (at_builtin; refine wpList_push (o := ⟨some 24, _, _, _, _, _⟩) _ _ 46 rfl rfl Tryd.underlying46 HI1.out HI2.out HI3.out HI4.out rfl (by decide) rfl HO5.out HB5.out _ rfl rfl rfl (by simp [Value.oneCell']) (by omega) (by unfold maxLen; omega) hsz5 ?_; intro v' w' hown' hbel' _)
          rw [strs_snoc, HSN.out] at hown'
          have HO6 := Lib.hid hown'
          have HB6 := Lib.hid hbel'
          clear hown' hbel'
          go_wp2
          go_roundg (ks.length - k)
          case measure => omega
          case rel => exact ⟨k + 1, by omega, by omega, by go_num, HO6.out, HB6.out⟩
        obtain rfl : k = ks.length := by omega
        obtain ⟨x0, x1, x2, x3, -, -, -, -⟩ := (HX.out.below hbx0).cells
        rw [List.take_length] at hown
        have HOW := Lib.hid hown
        have HBQ := Lib.hid hbq
        have HBW := Lib.hid hbel
        have HBX := Lib.hid hbx0
        clear hown hbq hbel hbx0
        obtain ⟨g3, hA3, hlo3, hlt3, hcell⟩ := strs_cell HOW.out (tx_len d ks) hp0
        subst hA3
        have z0 := hcell 0 hp0
        have z1 := hcell 1 hp1
        have hkl0 := HLK.out (kid ks 0) (kid_mem hp0)
        have hkl1 := HLK.out (kid ks 1) (kid_mem hp1)
        rw [tx_kid hp0] at z0
        rw [tx_kid hp1] at z1
        generalize fmtG d (kid ks 0) = s0 at *
        generalize fmtG d (kid ks 1) = s1 at *
        have HI := Lib.hid (show ∀ j, j < 8 → (wr.alloc (Obj.cells #[.int .i64 5, .int .i64 6, .int .i64 7, .int .i64 8, .int .i64 9, .int .i64 10, .int .i64 11, .int .i64 12] 3)).cell? ⟨wr.heap.size, j, Option.none⟩ = some (.int .i64 ((j : Int) + 5)) from fun j hj => (ints_at wr infOps hj).trans (by rw [inf_at hj]))
        have hbn := box_below wr (Obj.cells #[.int .i64 5, .int .i64 6, .int .i64 7, .int .i64 8, .int .i64 9, .int .i64 10, .int .i64 11, .int .i64 12] 3)
        have HBN := Lib.hid (below_two HBW.out hbn HBW.out.size)
        have HY0 := Lib.hid (cell_below z0 hbn)
        have HY1 := Lib.hid (cell_below z1 hbn)
        have HXN := Lib.hid ((HX.out.below HBX.out).below hbn)
        have hzn := hbn.size
        have hzl : wr.heap.size < (wr.alloc (Obj.cells #[.int .i64 5, .int .i64 6, .int .i64 7, .int .i64 8, .int .i64 9, .int .i64 10, .int .i64 11, .int .i64 12] 3)).heap.size := by simp only [World.size_alloc]; omega
        clear hcell hbn
        go_wp2
        clear x0 x1 x2 x3 z0 z1
        generalize wr.alloc (Obj.cells #[.int .i64 5, .int .i64 6, .int .i64 7, .int .i64 8, .int .i64 9, .int .i64 10, .int .i64 11, .int .i64 12] 3) = W60 at *
        go_loopg [62] 9 (fun g v wq => InR W60 op g v wq)
        case atStart => exact ⟨0, by omega, by omega, rfl, fun j h => absurd h (Nat.not_lt_zero _), rfl⟩
        case round =>
          rename World => wq
          obtain ⟨k, hk, hg, rfl, hall, rfl⟩ := hrel
          have HALL := Lib.hid hall
          clear hall
          by_cases hlt : k < 8
          case neg =>
            exfalso
            exact HALL.out (op - 5).toNat (by omega) (by omega)
          have hc := HI.out k hlt
          obtain ⟨x0, x1, x2, x3, -, -, -, -⟩ := HXN.out.cells
          have hkI : (k : Int) < 8 := by omega
          have hg3 : g3 < wq.heap.size := by omega
          by_cases he : (k : Int) + 5 = op
          case neg =>
            have e5 : ((k : Int) + 5 == op) = false := by simp [he]
            have HNE := Lib.hid he
            clear he
            go_wp2
            go_roundg (8 - k)
            case measure => omega
            case rel => exact ⟨k + 1, by omega, by omega, by go_num, upto_succT (P := fun j => ¬ ((j : Int) + 5 = op)) HALL.out HNE.out, rfl⟩
          have e5 : ((k : Int) + 5 == op) = true := by simp [he]
          have hwd : (wq.alloc (Obj.cells #[.string ⟨#[97, 110, 100]⟩, .string ⟨#[111, 114]⟩, .string ⟨#[120, 111, 114]⟩, .string ⟨#[60]⟩, .string ⟨#[62]⟩, .string ⟨#[61]⟩, .string ⟨#[43]⟩, .string ⟨#[45]⟩] 9)).cell? ⟨wq.heap.size, k, Option.none⟩ = some (.string ⟨(wordP op).toArray⟩) := (strs_at wq infWords hlt).trans (by rw [inf_word hlt, he])
          have hwl := word_len (op := op) (by omega) hop2
          have HBL := Lib.hid (HBN.out.alloc HBN.out.size (Obj.cells #[.string ⟨#[97, 110, 100]⟩, .string ⟨#[111, 114]⟩, .string ⟨#[120, 111, 114]⟩, .string ⟨#[60]⟩, .string ⟨#[62]⟩, .string ⟨#[61]⟩, .string ⟨#[43]⟩, .string ⟨#[45]⟩] 9))
          generalize wordP op = sw at *
          have y0 := HY0.out
          have y1 := HY1.out
          clear he
          go_wp2
          have i0 : (0 : Int) < (ks.length : Int) := by omega
          have i1 : (1 : Int) < (ks.length : Int) := by omega
          have m1 : ¬ 9223372036854775807 < 1 + s0.length := by omega
          have m2 : ¬ 9223372036854775807 < 1 + s0.length + 1 := by omega
          have m3 : ¬ 9223372036854775807 < 1 + s0.length + 1 + sw.length := by omega
          have m4 : ¬ 9223372036854775807 < 1 + s0.length + 1 + sw.length + 1 := by omega
          have m5 : ¬ 9223372036854775807 < 1 + s0.length + 1 + sw.length + 1 + s1.length := by omega
          have m6 : ¬ 9223372036854775807 < 1 + s0.length + 1 + sw.length + 1 + s1.length + 1 := by omega
          go_region
          go_wp2
          go_ret
          exact ⟨ret_str (by rw [HF.out]; simp), HBL.out.drew⟩
end Go.Proofs.YtmbmngnnfkdngaaDoor
