/-
  ScanOrder: a rule that reads a later rule reads the value of the scan before; one that reads an earlier rule, that of the scan under way.
-/
import Derived.Test.YtcikenlflcofbaaDoorK28
namespace Go.Proofs.YtcikenlflcofbaaDoor
open Go.RowKit

/-- Bools to be read. -/
def BoC (_ : World) (_ : Nat → Prop) (cs : List Value) (x : Bool) : Prop := cs = [.bool x]
theorem BoC.mono : MonoS BoC := fun _ _ _ _ _ _ _ _ h => h
theorem boAt {w : World} {S : Nat → Prop} {A : Option Addr} {n : Nat} {l : List Bool} (h : Rw BoC 1 w S A n l) {k : Nat} (hk : k < n) :
    ∃ b o x, A = some ⟨b, o, Option.none⟩ ∧ S b ∧ l[k]? = some x ∧ w.cell? ⟨b, o + k, Option.none⟩ = some (.bool x) := by
  obtain ⟨b, o, cs, s, e, hb, hx, _, rfl, hat⟩ := h.at_ hk
  exact ⟨b, o, s, e, hb, hx, by simpa using hat 0 _ rfl⟩

def oRl : List Rl := [⟨[111, 108, 100], [120]⟩, ⟨[120], [97]⟩, ⟨[110, 101, 119], [120]⟩]
def oPg : Pg := ⟨rIn, [[111, 108, 100], [120], [110, 101, 119]], [], [⟨31, 1⟩, ⟨32, 0⟩, ⟨30, 0⟩, ⟨32, 1⟩, ⟨31, 1⟩, ⟨32, 2⟩]⟩
theorem oCmp : cmpP oRl rIn = (oPg, 0, 0) := by kernel_rfl
def oRows : Int → List Int → List (List Int)
  | _, [] => []
  | b, x :: xs => [b, x, x] :: oRows x xs
theorem oScan (u b v x : Int) (hx : x = 0 ∨ x = 1) : scanP oPg ⟨[u, b, v], []⟩ [x] = ⟨[b, x, x], []⟩ ∧ readB oPg [x] = true := by
  rcases hx with rfl | rfl <;> exact ⟨rfl, rfl⟩
theorem oRunL : ∀ (xs : List Int) (u b v : Int) (l : List (List Int)), (∀ x ∈ xs, x = 0 ∨ x = 1) → runL oPg (one xs) ⟨[u, b, v], []⟩ l = (l ++ oRows b xs, 0)
  | [], _, _, _, l, _ => by unfold oRows one; rw [List.append_nil]; rfl
  | x :: xs, u, b, v, l, h => by
    obtain ⟨h1, h2⟩ := oScan u b v x (h x List.mem_cons_self)
    have e : one (x :: xs) = [x] :: one xs := rfl
    rw [e, runL_cons, h2, h1, if_neg (by decide)]
    dsimp only
    rw [oRunL xs b x x _ (fun y hy => h y (List.mem_cons_of_mem _ hy)), List.append_assoc]
    rfl
theorem oVer : (verP oPg).2.2 = 0 := by kernel_rfl
theorem oRun {xs : List Int} (h : ∀ x ∈ xs, x = 0 ∨ x = 1) : runS oPg (one xs) = (oRows 0 xs, 0) := by
  unfold runS
  rw [if_neg (by rw [oVer]; decide)]
  exact oRunL xs 0 0 0 [] h
theorem oRows_len : ∀ (b : Int) (xs : List Int), (oRows b xs).length = xs.length
  | _, [] => rfl
  | b, x :: xs => by unfold oRows; rw [List.length_cons, List.length_cons, oRows_len x xs]
theorem oRows_zero {b x : Int} {xs : List Int} (h : xs[0]? = some x) : (oRows b xs)[0]? = some [b, x, x] := by
  cases xs with
  | nil => cases h
  | cons y ys => cases h; rfl
theorem oRows_next : ∀ {k : Nat} {b x y : Int} {xs : List Int}, xs[k + 1]? = some x → xs[k]? = some y → (oRows b xs)[k + 1]? = some [y, x, x]
  | 0, b, x, y, z :: xs, h, h2 => by
    cases h2
    exact oRows_zero (b := y) (xs := xs) h
  | k + 1, b, x, y, z :: xs, h, h2 => oRows_next (k := k) (b := z) (xs := xs) h h2
def bi (l : List Bool) : List Int := l.map bitP
theorem bi_bit {l : List Bool} : ∀ x ∈ bi l, x = 0 ∨ x = 1 := by
  intro x hx
  obtain ⟨b, -, rfl⟩ := List.mem_map.1 hx
  cases b
  · exact .inl rfl
  · exact .inr rfl

def OrA (W : World) (base : Nat) (xa : List Bool) (g : Nat) (v6 v30 : Value) (wr : World) : Prop :=
  ∃ (k : Nat) (hs : List Nat), k ≤ xa.length ∧ xa.length - k < g ∧ v30 = .int .i64 (k : Int) ∧ LoW wr base v6 1 hs (one ((bi xa).take k)) ∧ Below base W wr
def OrB (W : World) (n : Nat) (g : Nat) (v65 : Value) (wr : World) : Prop := ∃ k : Nat, k ≤ n ∧ n - k < g ∧ v65 = .int .i64 (k : Int) ∧ Below W.heap.size W wr

theorem same_box {wq : World} {A : Option Addr} {c : Nat} {bf u : Int} (h : Rw IaC 1 wq (Old wq) A 3 [bf, u, u]) (W : World) (hW : W.heap = (wq.alloc (Obj.cells #[.int .i64 bf, .int .i64 u, .int .i64 u] 3)).heap) :
    Calls Tryd.prog 23 #[.slice A 3 c, .slice (some ⟨wq.heap.size, 0, Option.none⟩) 3 3] W (RetB true W) := by
  have hs : W.heap.size = (wq.alloc (Obj.cells #[.int .i64 bf, .int .i64 u, .int .i64 u] 3)).heap.size := by rw [hW]
  have hk : KeepOn (Old (wq.alloc (Obj.cells #[.int .i64 bf, .int .i64 u, .int .i64 u] 3))) (wq.alloc (Obj.cells #[.int .i64 bf, .int .i64 u, .int .i64 u] 3)) W := fun b _ => by rw [hW]
  have hb := box_below wq (Obj.cells #[.int .i64 bf, .int .i64 u, .int .i64 u] 3)
  have h1 : Rw IaC 1 (wq.alloc (Obj.cells #[.int .i64 bf, .int .i64 u, .int .i64 u] 3)) (Old (wq.alloc (Obj.cells #[.int .i64 bf, .int .i64 u, .int .i64 u] 3))) A 3 [bf, u, u] := h.mono IaC.mono (fun b q => Nat.lt_of_lt_of_le q hb.size) (keepOn_below hb fun _ q => q)
  have h2 : Rw IaC 1 W (Old W) A [bf, u, u].length [bf, u, u] := h1.mono IaC.mono (fun b q => by show b < W.heap.size; rw [hs]; exact q) hk
  have h3 : Rw IaC 1 W (Old W) (some ⟨wq.heap.size, 0, Option.none⟩) [bf, u, u].length [bf, u, u] := (ints_box wq [bf, u, u] #[.int .i64 bf, .int .i64 u, .int .i64 u] rfl (show (3 : Nat) ≤ 1000 by decide)).mono IaC.mono (fun b q => by show b < W.heap.size; rw [hs]; exact q) hk
  have := same28_any A _ c 3 [bf, u, u] [bf, u, u] W h2 h3 (show (3 : Nat) ≤ maxLen by decide)
  rw [decide_eq_true rfl] at this
  exact this

def oBox : Array Value := #[nmV [111, 108, 100], nmV [120], nmV [120], nmV [97], nmV [110, 101, 119], nmV [120]]
set_option maxRecDepth 100000 in
set_option maxHeartbeats 8000000 in
theorem ord_any (A : Option Addr) (c : Nat) (xa : List Bool) (w : World) (hw : Lw w) (hr : Rw BoC 1 w (Old w) A xa.length xa) (hc' : xa.length ≤ c) (hm' : c ≤ maxLen) :
    Calls Tryd.prog 8 #[.slice A xa.length c] w (RetB true w) := by
  have HR := Lib.hid hr
  have HW := Lib.hid hw
  by_cases h40 : 40 < xa.length
  case pos =>
    have hk := known28_any w hw
    have hb : decide ((40 : Int) < (xa.length : Int)) = true := by simp; omega
    have HK := Lib.hid hk
    have hlm : (xa.length : Int) ≤ 9223372036854775807 := by unfold maxLen at hm'; omega
    clear hk hr hw hm' hc'
    go_enter Tryd.func8, Tryd.ntmps8
    go_wp2_with fail
    refine HK.out.mono ?_
    rintro e w1 ⟨rfl, hb1⟩
    go_wp2
    go_ret
    exact ⟨rfl, hb1⟩
  have hal : xa.length ≤ 40 := by omega
  have hb1 := box_below w (Obj.cells oBox 27)
  have hb2 := box_below (w.alloc (Obj.cells oBox 27)) (Obj.cells #[nmV [97], .int .i64 1] 58)
  have hr1 := rw_box (R := RlC) (size := 2) w 27 oRl rlL oBox rfl rfl (show (3 : Nat) ≤ maxLen by decide) (fun _ _ => rfl) (fun x hx => by
    unfold oRl at hx
    simp only [List.mem_cons, List.not_mem_nil, or_false] at hx
    rcases hx with rfl | rfl | rfl <;> exact ⟨rfl, by decide, by decide⟩)
  have hr2 := rw_box (R := SgC) (size := 2) (w.alloc (Obj.cells oBox 27)) 58 rIn sgL #[nmV [97], .int .i64 1] rfl rfl (by decide) (fun _ _ => rfl) (fun x hx => by
    have : x = ⟨[97], 1⟩ := List.mem_singleton.1 hx
    subst this
    exact ⟨rfl, by decide, by decide⟩)
  have hr1' := hr1.mono RlC.mono (fun b q => Nat.lt_of_lt_of_le q hb2.size) (keepOn_below hb2 fun b q => q)
  have HB := Lib.hid (below_two hb1 hb2 hb1.size)
  have hc := compile_any _ 3 oRl _ 1 rIn _ (hw.below HB.out) (Nat.le_refl _) (by decide) hr1' (Nat.le_refl _) (by decide) hr2
  rw [World.size_alloc] at hc
  have HC := Lib.hid hc
  have hsz := HB.out.size
  have HCP := Lib.hid oCmp
  clear hc hb1 hb2 hr1 hr2 hr1' hr hw hm' hc' h40
  go_enter Tryd.func8, Tryd.ntmps8
  unfold oBox at HC hsz HB
  go_wp2_with fail
  generalize (w.alloc (Obj.cells #[nmV [111, 108, 100], nmV [120], nmV [120], nmV [97], nmV [110, 101, 119], nmV [120]] 27)).alloc (Obj.cells #[nmV [97], .int .i64 1] 58) = W at *
  refine HC.out.mono ?_
  intro e w1 hret
  obtain ⟨A1, c1, A2, c2, A3, c3, A4, c4, rfl, hpg, hb3⟩ := hret.of HCP.out
  have hbx := box_below w1 (Obj.cells (pgC oPg ⟨A1, c1, A2, c2, A3, c3, A4, c4⟩) 32)
  have hpx := heap_alloc_new w1 (Obj.cells (pgC oPg ⟨A1, c1, A2, c2, A3, c3, A4, c4⟩) 32)
  have hpg2 : PgI (w1.alloc (Obj.cells (pgC oPg ⟨A1, c1, A2, c2, A3, c3, A4, c4⟩) 32)) (Old w1) oPg ⟨A1, c1, A2, c2, A3, c3, A4, c4⟩ := hpg.mono (fun b q => q.2) (keepOn_below hbx fun b q => q.2)
  have hb4 := HB.out.trans ((below_two hb3 hbx hb3.size).mono hsz)
  have hs1 := World.size_alloc w1 (Obj.cells (pgC oPg ⟨A1, c1, A2, c2, A3, c3, A4, c4⟩) 32)
  go_upto_region 4 with fail
  generalize w1.alloc (Obj.cells (pgC oPg ⟨A1, c1, A2, c2, A3, c3, A4, c4⟩) 32) = W2 at *
  have HPX := Lib.hid hpx
  have HPG := Lib.hid hpg2
  have HB4 := Lib.hid hb4
  have HS1 := Lib.hid hs1
  have hwl : w.heap.size ≤ w1.heap.size := Nat.le_trans hsz hb3.size
  obtain ⟨ti, hti, hz0, hz1, hz2⟩ := info_parts infoIs
  have HLO : Hid (LoW W2 W2.heap.size (.slice Option.none 0 0) 1 [] []) := Lib.hid ⟨rfl, World.ownsRow_nil _ _ _ _, fun i g x h => by simp at h⟩
  clear hret hpg hbx hpx hpg2 hb4 hs1 hb3 HC
  go_wp2
  go_loopg [6, 30] (xa.length + 1) (fun g v6 v30 wr => OrA W2 W2.heap.size xa g v6 v30 wr)
  case atStart => exact ⟨0, [], Nat.zero_le _, by omega, rfl, HLO.out, Below.refl _ _⟩
  case round =>
    clear HLO
    obtain ⟨k, hs, hk, hgk, rfl, hlo, hbel⟩ := hrel
    have hszr := hbel.size
    have hkl : (one ((bi xa).take k)).length = k := by rw [one_len, List.length_take]; unfold bi; rw [List.length_map]; omega
    have HKL := Lib.hid hkl
    obtain ⟨A9, c9, rfl, hc9, hm9⟩ := own_shape hlo.row
    by_cases hlt : k < xa.length
    case pos =>
      have hbw := HB4.out.trans (hbel.mono HB4.out.size)
      obtain ⟨b, o, x, hA, hSb, hx, y0⟩ := boAt (HR.out.mono BoC.mono (fun _ q => q) (keepOn_below hbw fun _ q => q)) hlt
      subst hA
      have hbk : b < wr.heap.size := by have q' : b < w.heap.size := hSb; have := hbw.size; omega
      have HTK : Hid (one ((bi xa).take (k + 1)) = one ((bi xa).take k) ++ [[bitP x]]) := Lib.hid (one_take (by unfold bi; rw [List.getElem?_map, hx]; rfl))
      cases x with
      | true =>
        have hbv := box_below wr (Obj.cells #[.int .i64 1] 3)
        have hva : VaW (wr.alloc (Obj.cells #[.int .i64 1] 3)) W2.heap.size wr.heap.size 1 1 [1] := va_mk (heap_alloc_new wr _) rfl rfl (by decide) hszr
        have hlo1 := hlo.keep (w' := (wr.alloc (Obj.cells #[.int .i64 1] 3))) (fun z _ h2 => hbv.block z h2)
        have how := hlo1.row.alloc (Obj.cells #[.slice (some ⟨wr.heap.size, 0, Option.none⟩) 1 1] 51)
        have hsr := src_box (wr.alloc (Obj.cells #[.int .i64 1] 3)) [.slice (some ⟨wr.heap.size, 0, Option.none⟩) 1 1] 51 1 1 rfl
        rw [World.size_alloc] at hsr
        have HOW := Lib.hid how
        have HSR := Lib.hid hsr
        have HM1 := Lib.hid (show (one ((bi xa).take k)).length + 1 ≤ maxLen by rw [hkl]; unfold maxLen; omega)
        have HM2 := Lib.hid (show ((one ((bi xa).take k)).length + 1) * 24 ≤ 140737488355328 by rw [hkl]; omega)
        have HBS := Lib.hid (show W2.heap.size ≤ ((wr.alloc (Obj.cells #[.int .i64 1] 3)).alloc (Obj.cells #[.slice (some ⟨wr.heap.size, 0, Option.none⟩) 1 1] 51)).heap.size by simp only [World.size_alloc]; omega)
        have HVA := Lib.hid hva
        have HLO1 := Lib.hid hlo1
        have HLTR := Lib.hid hlo.row.lt
        have HBQ := Lib.hid (hbel.alloc hszr (Obj.cells #[.int .i64 1] 3))
        rw [hkl] at hc9
        clear hx hSb hbw hbv hva hlo1 how hsr hlo hbel hkl
        go_upto_region 10 with (at_builtin; refine wpList_append_grown (o := ⟨some 38, _, _, _, _, _⟩) (w := ((wr.alloc (Obj.cells #[.int .i64 1] 3)).alloc (Obj.cells #[.slice (some ⟨wr.heap.size, 0, Option.none⟩) 1 1] 51))) _ _ 59 rfl rfl Tryd.underlying59 hti hz0 hz1 hz2 rfl (by decide) rfl HOW.out rfl HSR.out (by intro u hu; rw [List.mem_singleton.1 hu]; rfl) HM1.out HM2.out HBS.out ?_; intro v6 w6 hown6 hg6 hv6; have HO6 := Lib.hid hown6; have HG6 := Lib.hid hg6; have HV6 := Lib.hid hv6; obtain ⟨A6, c6, hv6e, -, -⟩ := own_shape hown6; clear hown6 hg6 hv6; subst hv6e)
        have hpush := HLO1.out.push HVA.out (fun q => by have := (HLTR.out _ q).2; omega) hszr _ HG6.out HO6.out HV6.out
        have hb6 := (HBQ.out.alloc (by rw [World.size_alloc]; omega) (Obj.cells #[.slice (some ⟨wr.heap.size, 0, Option.none⟩) 1 1] 51)).grown HG6.out (by simp only [World.size_alloc]; omega) (fun j hj => (HLTR.out j hj).1)
        have HPU := Lib.hid hpush
        have HB6 := Lib.hid hb6
        clear hpush hb6
        go_wp2
        go_roundg (xa.length - k)
        case measure => omega
        case rel => exact ⟨k + 1, hs ++ [wr.heap.size], by omega, by omega, by go_num, by rw [HTK.out]; exact HPU.out, HB6.out⟩
      | false =>
        have hbv := box_below wr (Obj.cells #[.int .i64 0] 3)
        have hva : VaW (wr.alloc (Obj.cells #[.int .i64 0] 3)) W2.heap.size wr.heap.size 1 1 [0] := va_mk (heap_alloc_new wr _) rfl rfl (by decide) hszr
        have hlo1 := hlo.keep (w' := (wr.alloc (Obj.cells #[.int .i64 0] 3))) (fun z _ h2 => hbv.block z h2)
        have how := hlo1.row.alloc (Obj.cells #[.slice (some ⟨wr.heap.size, 0, Option.none⟩) 1 1] 51)
        have hsr := src_box (wr.alloc (Obj.cells #[.int .i64 0] 3)) [.slice (some ⟨wr.heap.size, 0, Option.none⟩) 1 1] 51 1 1 rfl
        rw [World.size_alloc] at hsr
        have HOW := Lib.hid how
        have HSR := Lib.hid hsr
        have HM1 := Lib.hid (show (one ((bi xa).take k)).length + 1 ≤ maxLen by rw [hkl]; unfold maxLen; omega)
        have HM2 := Lib.hid (show ((one ((bi xa).take k)).length + 1) * 24 ≤ 140737488355328 by rw [hkl]; omega)
        have HBS := Lib.hid (show W2.heap.size ≤ ((wr.alloc (Obj.cells #[.int .i64 0] 3)).alloc (Obj.cells #[.slice (some ⟨wr.heap.size, 0, Option.none⟩) 1 1] 51)).heap.size by simp only [World.size_alloc]; omega)
        have HVA := Lib.hid hva
        have HLO1 := Lib.hid hlo1
        have HLTR := Lib.hid hlo.row.lt
        have HBQ := Lib.hid (hbel.alloc hszr (Obj.cells #[.int .i64 0] 3))
        rw [hkl] at hc9
        clear hx hSb hbw hbv hva hlo1 how hsr hlo hbel hkl
        go_upto_region 11 with (at_builtin; refine wpList_append_grown (o := ⟨some 42, _, _, _, _, _⟩) (w := ((wr.alloc (Obj.cells #[.int .i64 0] 3)).alloc (Obj.cells #[.slice (some ⟨wr.heap.size, 0, Option.none⟩) 1 1] 51))) _ _ 59 rfl rfl Tryd.underlying59 hti hz0 hz1 hz2 rfl (by decide) rfl HOW.out rfl HSR.out (by intro u hu; rw [List.mem_singleton.1 hu]; rfl) HM1.out HM2.out HBS.out ?_; intro v6 w6 hown6 hg6 hv6; have HO6 := Lib.hid hown6; have HG6 := Lib.hid hg6; have HV6 := Lib.hid hv6; obtain ⟨A6, c6, hv6e, -, -⟩ := own_shape hown6; clear hown6 hg6 hv6; subst hv6e)
        have hpush := HLO1.out.push HVA.out (fun q => by have := (HLTR.out _ q).2; omega) hszr _ HG6.out HO6.out HV6.out
        have hb6 := (HBQ.out.alloc (by rw [World.size_alloc]; omega) (Obj.cells #[.slice (some ⟨wr.heap.size, 0, Option.none⟩) 1 1] 51)).grown HG6.out (by simp only [World.size_alloc]; omega) (fun j hj => (HLTR.out j hj).1)
        have HPU := Lib.hid hpush
        have HB6 := Lib.hid hb6
        clear hpush hb6
        go_wp2
        go_roundg (xa.length - k)
        case measure => omega
        case rel => exact ⟨k + 1, hs ++ [wr.heap.size], by omega, by omega, by go_num, by rw [HTK.out]; exact HPU.out, HB6.out⟩
    obtain rfl : k = xa.length := by omega
    have hbl : (bi xa).length = xa.length := by unfold bi; rw [List.length_map]
    have htk : (bi xa).take xa.length = bi xa := List.take_of_length_le (by rw [hbl]; exact Nat.le_refl _)
    rw [htk] at hlo hkl hc9
    rw [htk]
    have hbw := HB4.out.trans (hbel.mono HB4.out.size)
    have hs1 := HS1.out
    have hpx := (hbel.block w1.heap.size (by omega)).trans HPX.out
    have hpg : PgI wr (Old wr) oPg ⟨A1, c1, A2, c2, A3, c3, A4, c4⟩ := HPG.out.mono (fun b q => by have q' : b < w1.heap.size := q; show b < wr.heap.size; omega) (keepOn_below hbel fun b q => by have q' : b < w1.heap.size := q; omega)
    have hrw : Rw LsC 1 wr (Old wr) A9 (one (bi xa)).length (one (bi xa)) := by
      exact hlo.rw (by decide) (fun b _ h2 => h2)
    have hrn := Run_any (c := c9) hpg hrw (by rw [hkl]; omega)
    rw [hkl] at hrn hrw
    rw [hkl]
    have HRU := Lib.hid hrn
    have q0 : wr.cell? ⟨w1.heap.size, 0, Option.none⟩ = some (.slice A1 oPg.ins.length c1) := by simp [World.cell?, hpx]
    have q1 : wr.cell? ⟨w1.heap.size, 1, Option.none⟩ = some (.slice A2 oPg.rls.length c2) := by simp [World.cell?, hpx]
    have q2 : wr.cell? ⟨w1.heap.size, 2, Option.none⟩ = some (.slice A3 oPg.cells.length c3) := by simp [World.cell?, hpx]
    have q3 : wr.cell? ⟨w1.heap.size, 3, Option.none⟩ = some (.slice A4 oPg.code.length c4) := by simp [World.cell?, hpx]
    have HBW := Lib.hid hbw
    have HRW := Lib.hid hrw
    clear hlo hkl hbel hpx hpg hrw hrn hbw hlt HKL htk hbl
    go_wp2_with fail
    refine HRU.out.mono ?_
    rintro e w5 ⟨A5, c5, rfl, hc5, hm5, hr5, hb5⟩
    have hRS := oRun (bi_bit (l := xa))
    have hl5 : (runS oPg (one (bi xa))).1.length = xa.length := by rw [hRS, oRows_len]; unfold bi; rw [List.length_map]
    have he5 : (runS oPg (one (bi xa))).2 = 0 := by rw [hRS]
    rw [hl5] at hc5 hr5 ⊢
    rw [he5]
    have hr5' : Rw LsC 1 w5 (New wr w5) A5 xa.length (oRows 0 (bi xa)) := by rw [hRS] at hr5; exact hr5
    have HR5 := Lib.hid (hr5'.mono LsC.mono (S' := Old w5) (fun _ q => q.2) (KeepOn.refl _ _))
    have HRW5 := Lib.hid (HRW.out.mono LsC.mono (S' := Old w5) (fun _ q => Nat.lt_of_lt_of_le q hb5.size) (keepOn_below hb5 fun _ q => q))
    have HB5 := Lib.hid (below_two HBW.out hb5 HBW.out.size)
    clear hr5 hr5' hl5 he5 hRS hb5 q0 q1 q2 q3 HRU HRW
    unfold maxLen at hm5
    go_wp2
    go_loopg [65] (xa.length + 1) (fun g v65 wq => OrB w5 xa.length g v65 wq)
    case atStart => exact ⟨0, Nat.zero_le _, by omega, rfl, Below.refl _ _⟩
    case round =>
      rename World => wq
      obtain ⟨j, hj, hgj, rfl, hbq⟩ := hrel
      have hsq := hbq.size
      have hbo := HB5.out.trans (hbq.mono HB5.out.size)
      by_cases hlt : j < xa.length
      case neg =>
        have HK := Lib.hid (known28_any wq (HW.out.below hbo))
        have HBO := Lib.hid hbo
        clear hbo hbq
        go_wp2_with fail
        refine HK.out.mono ?_
        rintro e w7 ⟨rfl, hb7⟩
        have hb8 := below_two HBO.out hb7 HBO.out.size
        have HB8 := Lib.hid hb8
        clear hb7 hb8
        go_wp2
        go_ret
        exact ⟨rfl, HB8.out⟩
      have HBQ := Lib.hid hbq
      have hr5q := HR5.out.mono LsC.mono (S' := Old wq) (fun _ q => Nat.lt_of_lt_of_le q hsq) (keepOn_below hbq fun _ q => q)
      have hrwq := HRW5.out.mono LsC.mono (S' := Old wq) (fun _ q => Nat.lt_of_lt_of_le q hsq) (keepOn_below hbq fun _ q => q)
      obtain ⟨b, o, x, Ax, cx, hA, hSb, hx, hxc, hxm, hxr, y0⟩ := lsAt hr5q hlt
      obtain ⟨b2, o2, z, Az, cz, hA2, hSb2, hz, hzc, hzm, hzr, y1⟩ := lsAt hrwq hlt
      subst hA
      subst hA2
      obtain ⟨u, hu⟩ : ∃ u, (bi xa)[j]? = some u := ⟨_, List.getElem?_eq_getElem (show j < (bi xa).length by unfold bi; rw [List.length_map]; exact hlt)⟩
      have hz' : z = [u] := by
        unfold one at hz
        rw [List.getElem?_map, hu] at hz
        exact (Option.some.inj hz).symm
      subst hz'
      obtain ⟨b3, o3, z3, hA3, hSb3, hz3, u0⟩ := iaAt hzr (show 0 < 1 by decide)
      subst hA3
      have hz3' : u = z3 := by simpa using hz3
      subst hz3'
      rw [Nat.add_zero] at u0
      have hbk : b < wq.heap.size := hSb
      have hbk2 : b2 < wq.heap.size := hSb2
      have hbk3 : b3 < wq.heap.size := hSb3
      clear hz3
      cases j with
      | zero =>
        have hx' : x = [0, u, u] := by rw [oRows_zero hu] at hx; exact (Option.some.inj hx).symm
        subst hx'
        have y0 : wq.cell? ⟨b, o, Option.none⟩ = some (.slice Ax 3 cx) := y0
        have y1 : wq.cell? ⟨b2, o2, Option.none⟩ = some (.slice (some ⟨b3, o3, Option.none⟩) 1 cz) := y1
        have hsm : ∀ W : World, W.heap = (wq.alloc (Obj.cells #[.int .i64 0, .int .i64 u, .int .i64 u] 3)).heap → Calls Tryd.prog 23 #[.slice Ax 3 cx, .slice (some ⟨wq.heap.size, 0, Option.none⟩) 3 3] W (RetB true W) := fun W hW => same_box hxr W hW
        have HSM := Lib.hid hsm
        clear hsm hx hz hbq hbo hr5q hrwq hxr hzr hSb hSb2 hSb3 hxc hxm hzc hzm
        go_upto_region 22 with fail
        go_region_law ((go_simp; go_at_call 23; refine (HSM.out _ (by rfl)).mono ?_; rintro e9 w9 ⟨rfl, hb9⟩))
        all_goals
          have HB9 := Lib.hid (below_two (below_drew (HBQ.out.alloc HBQ.out.size (Obj.cells #[.int .i64 0, .int .i64 u, .int .i64 u] 3))) hb9 (below_drew (HBQ.out.alloc HBQ.out.size (Obj.cells #[.int .i64 0, .int .i64 u, .int .i64 u] 3))).size)
          clear hb9
          go_wp2
          go_roundg (xa.length - 0)
          case measure => omega
          case rel => exact ⟨1, by omega, by omega, by go_num, HB9.out⟩
      | succ j =>
        obtain ⟨u', hu'⟩ : ∃ u, (bi xa)[j]? = some u := ⟨_, List.getElem?_eq_getElem (show j < (bi xa).length by unfold bi; rw [List.length_map]; omega)⟩
        have hx' : x = [u', u, u] := by rw [oRows_next hu hu'] at hx; exact (Option.some.inj hx).symm
        subst hx'
        obtain ⟨b4, o4, z4, Ay, cy, hA4, hSb4, hz4, hzc4, hzm4, hzr4, y2⟩ := lsAt hrwq (show j < xa.length by omega)
        cases hA4
        have hz4' : z4 = [u'] := by
          unfold one at hz4
          rw [List.getElem?_map, hu'] at hz4
          exact (Option.some.inj hz4).symm
        subst hz4'
        obtain ⟨b5, o5, z5, hA5, hSb5, hz5, u1⟩ := iaAt hzr4 (show 0 < 1 by decide)
        subst hA5
        have hz5' : u' = z5 := by simpa using hz5
        subst hz5'
        rw [Nat.add_zero] at u1
        have hbk5 : b5 < wq.heap.size := hSb5
        have y0 : wq.cell? ⟨b, o + (j + 1), Option.none⟩ = some (.slice Ax 3 cx) := y0
        have y1 : wq.cell? ⟨b2, o2 + (j + 1), Option.none⟩ = some (.slice (some ⟨b3, o3, Option.none⟩) 1 cz) := y1
        have y2 : wq.cell? ⟨b2, o2 + j, Option.none⟩ = some (.slice (some ⟨b5, o5, Option.none⟩) 1 cy) := y2
        clear hz4 hz5 hzc4 hzm4 hzr4 hSb4 hSb5
        have hsm : ∀ W : World, W.heap = (wq.alloc (Obj.cells #[.int .i64 u', .int .i64 u, .int .i64 u] 3)).heap → Calls Tryd.prog 23 #[.slice Ax 3 cx, .slice (some ⟨wq.heap.size, 0, Option.none⟩) 3 3] W (RetB true W) := fun W hW => same_box hxr W hW
        have HSM := Lib.hid hsm
        clear hsm hx hz hbq hbo hr5q hrwq hxr hzr hSb hSb2 hSb3 hxc hxm hzc hzm
        go_upto_region 22 with fail
        generalize hJ : j + 1 = J at *
        have hi3 : (J : Int) < (xa.length : Int) := by omega
        have HJ := Lib.hid hJ
        clear hJ
        go_region_law ((go_simp; go_at_call 23; refine (HSM.out _ (by rfl)).mono ?_; rintro e9 w9 ⟨rfl, hb9⟩))
        all_goals
          have HB9 := Lib.hid (below_two (below_drew (HBQ.out.alloc HBQ.out.size (Obj.cells #[.int .i64 u', .int .i64 u, .int .i64 u] 3))) hb9 (below_drew (HBQ.out.alloc HBQ.out.size (Obj.cells #[.int .i64 u', .int .i64 u, .int .i64 u] 3))).size)
          clear hb9
          go_wp2
          go_roundg (xa.length - J)
          case measure => omega
          case rel => exact ⟨J + 1, by omega, by omega, by go_num, HB9.out⟩
end Go.Proofs.YtcikenlflcofbaaDoor
