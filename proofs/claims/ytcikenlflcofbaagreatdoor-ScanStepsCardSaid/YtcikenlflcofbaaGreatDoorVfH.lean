/-
  The verifier's header: the counts, names and kinds of a program.
-/
import Derived.Test.YtcikenlflcofbaaGreatDoorEmP
import Derived.Test.YtcikenlflcofbaaGreatDoorM1
import Derived.Test.YtcikenlflcofbaaGreatDoorWN
import Derived.Test.YtcikenlflcofbaaGreatDoorTable
namespace Go.Proofs.YtcikenlflcofbaaGreatDoor
open Go.RowKit

def RetIB (z : Int) (w : World) (e : Ending) (w' : World) : Prop := e = .returned (.int .i64 z) ∧ Below w.heap.size w w'
theorem RetIB.mk {z z' : Int} {w w' : World} (h : z' = z) (hb : Below w.heap.size w w') : RetIB z w (.returned (.int .i64 z')) w' := by subst h; exact ⟨rfl, hb⟩
abbrev nmV (s : List UInt8) : Value := .string ⟨s.toArray⟩
theorem infoNm : (Tryz.prog.info? 9).map (fun i => (i.zero, i.size, i.bytes)) = some (some (.string ⟨#[]⟩), 1, 16) := by kernel_rfl
theorem zeroBo (w : World) : (zeroValue 4).run Tryz.prog w = .ok (.bool false) w := by kernel_rfl
theorem rw_mem {α : Type} {R : World → (Nat → Prop) → List Value → α → Prop} {size n : Nat} {w : World} {S : Nat → Prop} {A : Option Addr} {xs : List α} (h : Rw R size w S A n xs) : ∀ x ∈ xs, ∃ cs, R w S cs x := by
  intro x hx
  obtain ⟨k, hk⟩ := List.getElem?_of_mem hx
  have hkn : k < n := by have := (List.getElem?_eq_some_iff.1 hk).1; have := h.1; omega
  obtain ⟨b, o, cs, y, -, -, hy, -, hc, -⟩ := h.at_ hkn
  rw [hk] at hy
  cases hy
  exact ⟨cs, hc⟩
theorem rw_src {w : World} {S : Nat → Prop} {A : Option Addr} {n : Nat} {l : List (List UInt8)} (h : Rw NmC 1 w S A n l) : Src w 1 A n (l.map nmV) := by
  refine ⟨by rw [List.length_map, h.1]; omega, fun hn => ?_⟩
  obtain ⟨b, o, e, -, hr⟩ := h.2 hn
  refine ⟨_, e, fun j u hu => ?_⟩
  rw [List.getElem?_map] at hu
  obtain ⟨s, hs, rfl⟩ := Option.map_eq_some_iff.1 hu
  obtain ⟨cs, hl, ⟨rfl, -⟩, hat⟩ := hr j s hs
  rw [Addr.add_mid]
  simpa using hat 0 _ rfl
theorem own_nmC {w : World} {base n c : Nat} {e : TypeId} {A : Option Addr} {l : List (List UInt8)} (h : w.ownsRow base e 1 (.slice A n c) n (l.map nmV)) (hn : l.length = n) (hl : ∀ s ∈ l, s.length ≤ maxLen) : Rw NmC 1 w (Old w) A n l := by
  refine Rw.of_own (f := fun s => [nmV s]) (base := base) (e := e) (c := c) (by rw [← List.map_eq_flatMap]; exact h) hn (fun _ _ => rfl) (fun s hs => ⟨rfl, hl s hs⟩) (fun b _ hb => hb)
/-- The map of what has been seen. -/
def seenN (pre : List (List UInt8)) (s : ByteArray) : Option Value := if s.data.toList ∈ pre then some (.bool true) else Option.none
theorem seenN_nil : seenN [] = fun _ => Option.none := by funext s; simp [seenN]
theorem seenN_snoc (pre : List (List UInt8)) (x : List UInt8) : seenN (pre ++ [x]) = putS (seenN pre) ⟨x.toArray⟩ (.bool true) := by
  funext s
  unfold seenN putS
  rw [toList_data, toList_data]
  by_cases h : s.data.toList = x
  · simp [h]
  · simp [h]
theorem seenN_get (pre : List (List UInt8)) (x : List UInt8) : (seenN pre ⟨x.toArray⟩).getD (.bool false) = .bool (decide (x ∈ pre)) := by
  unfold seenN
  by_cases h : x ∈ pre <;> simp [h]
theorem twiceG_cons (pre l : List (List UInt8)) (s : List UInt8) : twiceG pre (s :: l) = (decide (s ∈ pre) || twiceG (pre ++ [s]) l) := rfl
def HdA (W0 : World) (B : Nat) (ins : List Sg) (g : Nat) (v3 v46 : Value) (wr : World) : Prop :=
  ∃ k : Nat, k ≤ ins.length ∧ ins.length - k < g ∧ v46 = .int .i64 (k : Int) ∧ wr.ownsRow B 9 1 v3 k ((ins.take k).map fun s => nmV s.nm) ∧ Below B W0 wr
def HdB (W4 : World) (N : List (List UInt8)) (g : Nat) (v : Value) (wr : World) : Prop :=
  ∃ k : Nat, k ≤ N.length ∧ N.length - k < g ∧ v = .int .i64 (k : Int) ∧ (N.drop k).all nameB = N.all nameB ∧ wr = W4
def HdC (W4 : World) (N : List (List UInt8)) (g : Nat) (v : Value) (wr : World) : Prop :=
  ∃ k : Nat, k ≤ N.length ∧ N.length - k < g ∧ v = .int .i64 (k : Int) ∧ twiceG (N.take k) (N.drop k) = twiceG [] N ∧ MapS Tryz.prog 9 4 wr W4.heap.size k (seenN (N.take k)) ∧ Below W4.heap.size W4 wr
def HdD (W5 : World) (ins : List Sg) (g : Nat) (v : Value) (wr : World) : Prop :=
  ∃ k : Nat, k ≤ ins.length ∧ ins.length - k < g ∧ v = .int .i64 (k : Int) ∧ (ins.drop k).all kindB = ins.all kindB ∧ Below W5.heap.size W5 wr

set_option maxRecDepth 100000 in
set_option maxHeartbeats 8000000 in
theorem header_any {w : World} {p : Pg} {l : Pl} (hpg : PgI w (Old w) p l) : Calls Tryz.prog 82 #[pgV p l] w (RetIB (hdrP p) w) := by
  obtain ⟨B1, k1, B2, k2, B3, k3, B4, k4⟩ := l
  have HPG := Lib.hid hpg
  have m1 := hpg.m1
  have m2 := hpg.m2
  have m3 := hpg.m3
  have m4 := hpg.m4
  have h1 := hpg.h1
  have h2 := hpg.h2
  have h3 := hpg.h3
  have h4 := hpg.h4
  dsimp only at m1 m2 m3 m4 h1 h2 h3 h4
  unfold maxLen at m1 m2 m3 m4
  obtain ⟨r, hr⟩ : ∃ r, hdrP p = r := ⟨_, rfl⟩
  rw [hr]
  unfold hdrP at hr
  have HB0 := Lib.hid (box_below w (Obj.cells (pgC p ⟨B1, k1, B2, k2, B3, k3, B4, k4⟩) 35))
  have hcs : (64 : Int) < (p.ins.length : Int) ∨ ((p.ins.length : Int) ≤ 64 ∧ (16 : Int) < (p.rls.length : Int)) ∨ ((p.ins.length : Int) ≤ 64 ∧ (p.rls.length : Int) ≤ 16 ∧ (64 : Int) < (p.cells.length : Int)) ∨
      ((p.ins.length : Int) ≤ 64 ∧ (p.rls.length : Int) ≤ 16 ∧ (p.cells.length : Int) ≤ 64 ∧ (600 : Int) < (p.code.length : Int)) ∨ ((p.ins.length : Int) ≤ 64 ∧ (p.rls.length : Int) ≤ 16 ∧ (p.cells.length : Int) ≤ 64 ∧ (p.code.length : Int) ≤ 600) := by omega
  clear hpg
  rcases hcs with d0 | ⟨d0, d1⟩ | ⟨d0, d1, d2⟩ | ⟨d0, d1, d2, d3⟩ | ⟨d0, d1, d2, d3⟩
  case inr.inr.inr.inr =>
    rw [if_neg (by omega)] at hr
    have HR := Lib.hid hr
    have hn1 : p.ins.length ≤ 64 := by omega
    have hn2 : p.rls.length ≤ 16 := by omega
    clear hr
    obtain ⟨i0, hi, hz0, hz1, hz2⟩ := info_parts infoNm
    go_enter Tryz.func82, Tryz.ntmps82
    go_upto_region 3 with fail
    go_upto_region 4 with (at_make; refine wpList_make_own _ rfl _ _ 31 rfl (w.alloc (Obj.cells (pgC p ⟨B1, k1, B2, k2, B3, k3, B4, k4⟩) 35)).heap.size 9 i0 _ 1 Tryz.underlying31 hi hz0 hz1 .i64 .i64 _ (p.ins.length + p.rls.length) rfl rfl (by omega) (by rw [hz2]; omega) (by unfold maxLen; omega) (Nat.le_refl _) ?_; intro w1 hown1 hg1; have HG1 := Lib.hid hg1; have HO1 := Lib.hid hown1; clear hg1 hown1)
    have hs0 : (w.alloc (Obj.cells (pgC p ⟨B1, k1, B2, k2, B3, k3, B4, k4⟩) 35)).heap.size = w.heap.size + 1 := World.size_alloc _ _
    have hb1 : Below (w.alloc (Obj.cells (pgC p ⟨B1, k1, B2, k2, B3, k3, B4, k4⟩) 35)).heap.size (w.alloc (Obj.cells (pgC p ⟨B1, k1, B2, k2, B3, k3, B4, k4⟩) 35)) w1 := (Below.refl _ _).grown HG1.out (Nat.le_refl _) (fun k hk => by cases hk)
    have hown1 := HO1.out
    rw [hs0] at hb1 hown1
    have hbx0 : (w.alloc (Obj.cells (pgC p ⟨B1, k1, B2, k2, B3, k3, B4, k4⟩) 35)).heap[w.heap.size]? = some (.cells (pgC p ⟨B1, k1, B2, k2, B3, k3, B4, k4⟩) 35 (0, 0)) := heap_alloc_new w _
    have hb0 := HB0.out
    generalize w.alloc (Obj.cells (pgC p ⟨B1, k1, B2, k2, B3, k3, B4, k4⟩) 35) = W0 at *
    have HBX := Lib.hid hbx0
    have HBA := Lib.hid hb0
    have HB1 := Lib.hid hb1
    have HO2 := Lib.hid hown1
    have HBOX := Lib.hid (fun (W : World) (h : Below (w.heap.size + 1) W0 W) => show W.heap[w.heap.size]? = some (.cells (pgC p ⟨B1, k1, B2, k2, B3, k3, B4, k4⟩) 35 (0, 0)) from (h.block _ (by omega)).trans HBX.out)
    have HIN := Lib.hid (fun (W : World) (h : Below (w.heap.size + 1) W0 W) => HPG.out.r1.mono SgC.mono (fun _ q => q) (keepOn_below (HBA.out.trans (h.mono (by omega))) fun _ q => q))
    have HRL := Lib.hid (fun (W : World) (h : Below (w.heap.size + 1) W0 W) => HPG.out.r2.mono NmC.mono (fun _ q => q) (keepOn_below (HBA.out.trans (h.mono (by omega))) fun _ q => q))
    have HBW := Lib.hid (fun (W : World) (h : Below (w.heap.size + 1) W0 W) => HBA.out.trans (h.mono (by omega)))
    clear hb1 hown1 hbx0 hb0 HB0 HG1 HO1
    have hbo1 := HBOX.out w1 HB1.out
    have q0 : w1.cell? ⟨w.heap.size, 0, Option.none⟩ = some (.slice B1 p.ins.length k1) := by simp [World.cell?, hbo1]
    clear hbo1
    go_wp2
    go_loopg [3, 46] (p.ins.length + 1) (fun g v3 v46 wr => HdA W0 (w.heap.size + 1) p.ins g v3 v46 wr)
    case atStart => exact ⟨0, Nat.zero_le _, by omega, rfl, by rw [List.take_zero]; exact HO2.out, HB1.out⟩
    case round =>
      clear q0
      obtain ⟨k, hk, hgk, rfl, hown, hbel⟩ := hrel
      obtain ⟨A3, c3, rfl, hc3, hm3⟩ := own_shape hown
      have hsz := hbel.size
      have hbo := HBOX.out wr hbel
      have q1 : wr.cell? ⟨w.heap.size, 1, Option.none⟩ = some (.slice B2 p.rls.length k2) := by simp [World.cell?, hbo]
      clear hbo
      by_cases hlt : k < p.ins.length
      case pos =>
        obtain ⟨b, o, s, hA, hSb, hx, hxl, hxw, y0, y1⟩ := sgAt (HIN.out wr hbel) hlt
        subst hA
        obtain ⟨nm, kd⟩ := s
        dsimp only at hxl y0 y1
        have htk : (p.ins.take (k + 1)).map (fun s => nmV s.nm) = (p.ins.take k).map (fun s => nmV s.nm) ++ [nmV nm] := by
          rw [List.take_add_one, hx]
          simp
        have HTK := Lib.hid htk
        have hbk : b < wr.heap.size := by have : b < w.heap.size := hSb; omega
        have how := (hown.alloc (Obj.cells #[.string ⟨nm.toArray⟩, .int .i64 kd] 40)).alloc (Obj.cells #[.string ⟨nm.toArray⟩] 9)
        have hbw := (hbel.alloc (by omega) (Obj.cells #[.string ⟨nm.toArray⟩, .int .i64 kd] 40)).alloc (by rw [World.size_alloc]; omega) (Obj.cells #[.string ⟨nm.toArray⟩] 9)
        have hsr := src_box (wr.alloc (Obj.cells #[.string ⟨nm.toArray⟩, .int .i64 kd] 40)) [nmV nm] 9 1 1 rfl
        rw [World.size_alloc] at hsr
        have HSR := Lib.hid hsr
        have HOW := Lib.hid how
        have HBQ := Lib.hid hbw
        clear htk how hbw hsr hx hown hbel hSb
        go_upto_region 8 with (at_builtin; refine wpList_append_src (o := ⟨some 54, _, _, _, _, _⟩) (w := (wr.alloc (Obj.cells #[.string ⟨nm.toArray⟩, .int .i64 kd] 40)).alloc (Obj.cells #[.string ⟨nm.toArray⟩] 9)) _ _ 31 rfl rfl Tryz.underlying31 hi hz0 hz1 hz2 rfl (by decide) rfl HOW.out HBQ.out rfl HSR.out (by intro u hu; rw [List.mem_singleton.1 hu]; rfl) (by unfold maxLen; omega) (by omega) (by simp only [World.size_alloc]; omega) ?_; intro v6 w6 hown6 hb6 hs6; have HO6 := Lib.hid hown6; have HB6 := Lib.hid hb6; obtain ⟨A6, c6, hv6, -, -⟩ := own_shape hown6; clear hown6 hb6 hs6; subst hv6)
        go_wp2
        go_roundg (p.ins.length - k)
        case measure => omega
        case rel => exact ⟨k + 1, by omega, by omega, by go_num, by rw [HTK.out]; exact HO6.out, HB6.out⟩
      obtain rfl : k = p.ins.length := by omega
      rw [List.take_length] at hown
      have HOW := Lib.hid hown
      have HBL := Lib.hid hbel
      have HSR := Lib.hid (rw_src (HRL.out wr hbel))
      have HNN := Lib.hid (show (p.ins.map (fun s => nmV s.nm)) ++ p.rls.map nmV = (namesP p).map nmV by unfold namesP; simp [Function.comp_def])
      have HNL := Lib.hid (show (namesP p).length = p.ins.length + p.rls.length by unfold namesP; simp)
      have HNM := Lib.hid (show ∀ s ∈ namesP p, s.length ≤ maxLen by
        intro s hs
        unfold namesP at hs
        rcases List.mem_append.1 hs with q | q
        · obtain ⟨y, hy, rfl⟩ := List.mem_map.1 q
          obtain ⟨cs, hc⟩ := rw_mem HPG.out.r1 y hy
          exact hc.2.1
        · obtain ⟨cs, hc⟩ := rw_mem HPG.out.r2 s q
          exact hc.2)
      clear hown hbel hlt HO2 HB1
      generalize namesP p = N at *
      go_upto_region 10 with (at_builtin; refine wpList_append_src (o := ⟨some 59, _, _, _, _, _⟩) (w := wr) _ _ 31 rfl rfl Tryz.underlying31 hi hz0 hz1 hz2 rfl (by decide) rfl HOW.out HBL.out rfl HSR.out (by intro u hu; obtain ⟨y, -, rfl⟩ := List.mem_map.1 hu; rfl) (by unfold maxLen; omega) (by omega) (by omega) ?_; intro v4 w4 hown4 hb4 hs4; have HO4 := Lib.hid hown4; have HB4 := Lib.hid hb4; obtain ⟨A4, c4, hv4, hc4, hm4⟩ := own_shape hown4; clear hown4 hb4; subst hv4)
      have hrw := HO4.out
      rw [HNN.out, ← HNL.out] at hrw
      rw [← HNL.out] at hc4 ⊢
      have hnl80 : N.length ≤ 80 := by rw [HNL.out]; omega
      have HNR := Lib.hid (own_nmC hrw rfl HNM.out)
      unfold maxLen at hm4
      have HLT4 := HB4.out.size
      clear hrw HOW HBL HSR HNN HO4 q1 HNL
      go_wp2
      go_loopg [62] (N.length + 1) (fun g v wq => HdB w4 N g v wq)
      case atStart => exact ⟨0, Nat.zero_le _, by omega, rfl, by rw [List.drop_zero], rfl⟩
      case round =>
        rename World => wq
        obtain ⟨j, hj, hgj, rfl, hall, rfl⟩ := hrel
        by_cases hlt : j < N.length
        case pos =>
          obtain ⟨b, o, s, hA, hSb, hx, hxl, y0⟩ := nmAt HNR.out hlt
          subst hA
          have hget : N[j] = s := by
            rw [List.getElem?_eq_getElem hlt] at hx
            injection hx
          rw [List.drop_eq_getElem_cons hlt, hget, List.all_cons] at hall
          have HN := Lib.hid (fun W => name_any s W hxl)
          have hbk : b < wq.heap.size := hSb
          clear hx hget hSb
          obtain ⟨nb, hnb⟩ : ∃ nb, nameB s = nb := ⟨_, rfl⟩
          rw [hnb] at HN hall
          clear hnb
          have HALL := Lib.hid hall
          clear hall
          cases nb with
          | false =>
            have HE := Lib.hid (show 7 = r by rw [← HR.out, if_pos (by rw [← HALL.out]; rfl)])
            clear HR HALL
            go_wp2_with fail
            refine (HN.out _).mono ?_
            rintro e w5 ⟨rfl, rfl⟩
            go_wp2
            go_ret
            exact RetIB.mk HE.out (HBW.out _ HB4.out)
          | true =>
            go_wp2_with fail
            refine (HN.out _).mono ?_
            rintro e w5 ⟨rfl, rfl⟩
            go_wp2
            go_roundg (N.length - j)
            case measure => omega
            case rel => exact ⟨j + 1, by omega, by omega, by go_num, HALL.out, rfl⟩
        obtain rfl : j = N.length := by omega
        rw [List.drop_length] at hall
        have HR2 := Lib.hid (show (if twiceG [] N = true then (8 : Int) else if p.ins.all kindB = false then 10 else 0) = r by
          have q := HR.out
          rw [if_neg (by rw [← hall]; decide)] at q
          exact q)
        clear HR hall hlt
        have hmm := @run_makeMap Tryz.prog
        go_upto_region 17 with fail
        clear hmm
        have HMA := Lib.hid (MapS.made Tryz.prog 9 4 wq)
        have HBM := Lib.hid (box_below wq (.map #[] 0))
        go_wp2
        go_loopg [73] (N.length + 1) (fun g v wz => HdC wq N g v wz)
        case atStart => exact ⟨0, Nat.zero_le _, by omega, rfl, by rw [List.drop_zero, List.take_zero], by rw [List.take_zero, seenN_nil]; exact HMA.out, HBM.out⟩
        case round =>
          rename World => wz
          clear HMA HBM
          obtain ⟨i, hi', hgi, rfl, htw, hmap, hbz⟩ := hrel
          have hmlt := hmap.block
          by_cases hlt : i < N.length
          case pos =>
            obtain ⟨b, o, s, hA, hSb, hx, hxl, y0⟩ := nmAt (HNR.out.mono NmC.mono (fun _ q => q) (keepOn_below hbz fun _ q => q)) hlt
            subst hA
            have hget : N[i] = s := by
              rw [List.getElem?_eq_getElem hlt] at hx
              injection hx
            rw [List.drop_eq_getElem_cons hlt, hget, twiceG_cons] at htw
            have htk : N.take (i + 1) = N.take i ++ [s] := by
              rw [List.take_succ_eq_append_getElem hlt, hget]
            have hbk : b < wz.heap.size := by have : b < wq.heap.size := hSb; have := hbz.size; omega
            have hsz : (⟨s.toArray⟩ : ByteArray).size ≤ maxLen := by simpa [ByteArray.size] using hxl
            have hlk := hmap.look (t := 153) Tryz.underlying9 Tryz.underlying153 (zeroBo _) hsz false
            rw [seenN_get] at hlk
            simp only [Bool.false_eq_true, if_false] at hlk
            clear hx hget hSb
            by_cases hin : s ∈ N.take i
            · rw [decide_eq_true hin] at hlk
              have HE := Lib.hid (show 8 = r by rw [← HR2.out, if_pos (by rw [← htw]; simp [hin])])
              have HBF := Lib.hid (HBW.out _ (HB4.out.trans (hbz.mono (by omega))))
              clear htw hmap hbz HR2 hin
              go_wp2
              go_ret
              exact RetIB.mk HE.out HBF.out
            · rw [decide_eq_false hin] at hlk
              rw [decide_eq_false hin, Bool.false_or, ← htk] at htw
              obtain ⟨w', hup, hm', hg⟩ := hmap.store (t := 153) Tryz.underlying9 Tryz.underlying153 (by unfold maxLen; omega) hsz (plainElem_bool Tryz.underlying4 true)
              rw [← seenN_snoc, ← htk] at hm'
              have HTW := Lib.hid htw
              have HM := Lib.hid hm'
              have HBF := Lib.hid (hbz.grown hg (by omega) (fun j hj => by cases hj; exact Nat.le_refl _))
              clear htw hmap hbz hm' hg hin htk
              go_wp2
              go_roundg (N.length - i)
              case measure => omega
              case rel => exact ⟨i + 1, by omega, by omega, by go_num, HTW.out, HM.out, HBF.out⟩
          obtain rfl : i = N.length := by omega
          rw [List.drop_length] at htw
          have HR3 := Lib.hid (show (if p.ins.all kindB = false then (10 : Int) else 0) = r by
            have q := HR2.out
            rw [if_neg (by rw [← htw]; exact Bool.false_ne_true)] at q
            exact q)
          have hbz0 := HB4.out.trans (hbz.mono (by omega))
          have HBZ := Lib.hid hbz0
          have hbo := HBOX.out wz hbz0
          have q0 : wz.cell? ⟨w.heap.size, 0, Option.none⟩ = some (.slice B1 p.ins.length k1) := by simp [World.cell?, hbo]
          clear htw hmap hbz HR2 hlt hbz0 hbo
          go_wp2
          go_loopg [86] (p.ins.length + 1) (fun g v wx => HdD wz p.ins g v wx)
          case atStart => exact ⟨0, Nat.zero_le _, by omega, rfl, by rw [List.drop_zero], Below.refl _ _⟩
          case round =>
            rename World => wx
            clear q0
            obtain ⟨m, hm, hgm, rfl, hall, hbx⟩ := hrel
            have hszx := hbx.size
            have hszz := HBZ.out.size
            have hbx0 := HBZ.out.trans (hbx.mono (by omega))
            have HBX2 := Lib.hid (HBW.out _ hbx0)
            by_cases hlt : m < p.ins.length
            case pos =>
              obtain ⟨b, o, s, hA, hSb, hx, hxl, hxw, y0, y1⟩ := sgAt (HIN.out wx hbx0) hlt
              subst hA
              obtain ⟨nm, kd⟩ := s
              dsimp only at hxl y0 y1
              have hget : p.ins[m] = ⟨nm, kd⟩ := by
                rw [List.getElem?_eq_getElem hlt] at hx
                injection hx
              rw [List.drop_eq_getElem_cons hlt, hget, List.all_cons] at hall
              have hkb : kindB ⟨nm, kd⟩ = decide (kd = 1 ∨ kd = 2) := rfl
              rw [hkb] at hall
              have hbk : b < wx.heap.size := by have : b < w.heap.size := hSb; omega
              have HBF := Lib.hid (hbx.alloc (by omega) (Obj.cells #[.string ⟨nm.toArray⟩, .int .i64 kd] 40))
              have HBG := Lib.hid (HBX2.out.alloc (by omega) (Obj.cells #[.string ⟨nm.toArray⟩, .int .i64 kd] 40))
              have HALL := Lib.hid hall
              clear hx hget hSb hkb hbx hbx0 hall
              rcases (show kd = 1 ∨ kd = 2 ∨ (kd ≠ 1 ∧ kd ≠ 2) by omega) with rfl | rfl | ⟨e1, e2⟩
              case inr.inr =>
                have f1 : (kd != 1) = true := by simpa using e1
                have f2 : (kd != 2) = true := by simpa using e2
                have HE := Lib.hid (show 10 = r by rw [← HR3.out, if_pos (by rw [← HALL.out]; simp [e1, e2])])
                clear e1 e2 HALL
                go_wp2
                go_ret
                exact RetIB.mk HE.out HBG.out
              all_goals
                have hall := HALL.out
                rw [decide_eq_true (by omega), Bool.true_and] at hall
                have HALL2 := Lib.hid hall
                clear hall HALL
                go_wp2
                go_roundg (p.ins.length - m)
                case measure => omega
                case rel => exact ⟨m + 1, by omega, by omega, by go_num, HALL2.out, HBF.out⟩
            obtain rfl : m = p.ins.length := by omega
            rw [List.drop_length] at hall
            have HE := Lib.hid (show 0 = r by rw [← HR3.out, if_neg (by rw [← hall]; decide)])
            clear hall hlt hbx hbx0
            go_wp2
            go_ret
            exact RetIB.mk HE.out HBX2.out
  all_goals
    rw [if_pos (by omega)] at hr
    have HR := Lib.hid hr.symm
    clear hr
    go_enter Tryz.func82, Tryz.ntmps82
    go_wp2
    go_ret
    exact RetIB.mk HR.out.symm HB0.out
end Go.Proofs.YtcikenlflcofbaaGreatDoor
