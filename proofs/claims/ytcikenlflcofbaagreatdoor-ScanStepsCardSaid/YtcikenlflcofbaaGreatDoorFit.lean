/-
  scan.possible, scan.fits and scan.Fits.
-/
import Derived.Test.YtcikenlflcofbaaGreatDoorRun
namespace Go.Proofs.YtcikenlflcofbaaGreatDoor
open Go.RowKit

/-- Contents of cells to be read. -/
def CsC (_ : World) (_ : Nat → Prop) (cs : List Value) (x : Cs) : Prop := cs = csL x
theorem CsC.mono : MonoS CsC := fun _ _ _ _ _ _ _ _ h => h
theorem csAt {w : World} {S : Nat → Prop} {A : Option Addr} {n : Nat} {l : List Cs} (h : Rw CsC 2 w S A n l) {k : Nat} (hk : k < n) :
    ∃ b o c, A = some ⟨b, o, Option.none⟩ ∧ S b ∧ l[k]? = some c ∧ w.cell? ⟨b, o + k * 2, Option.none⟩ = some (.bool c.on) ∧ w.cell? ⟨b, o + k * 2 + 1, Option.none⟩ = some (.int .i64 c.n) := by
  obtain ⟨b, o, cs, c, e, hb, hx, _, rfl, hat⟩ := h.at_ hk
  exact ⟨b, o, c, e, hb, hx, by simpa using hat 0 _ rfl, hat 1 _ rfl⟩
/-- Where a memory's two rows lie. -/
structure Ml where
  A1 : Option Addr
  c1 : Nat
  A2 : Option Addr
  c2 : Nat
abbrev mmC (m : Mm) (l : Ml) : Array Value := #[.slice l.A1 m.vals.length l.c1, .slice l.A2 m.cells.length l.c2]
abbrev mmV (m : Mm) (l : Ml) : Value := .agg (mmC m l)
structure MmI (w : World) (S : Nat → Prop) (m : Mm) (l : Ml) : Prop where
  h1 : m.vals.length ≤ l.c1
  m1 : l.c1 ≤ maxLen
  r1 : Rw IaC 1 w S l.A1 m.vals.length m.vals
  h2 : m.cells.length ≤ l.c2
  m2 : l.c2 ≤ maxLen
  r2 : Rw CsC 2 w S l.A2 m.cells.length m.cells
theorem MmI.mono {w w' : World} {S S' : Nat → Prop} {m : Mm} {l : Ml} (h : MmI w S m l) (hS : ∀ b, S b → S' b) (hk : KeepOn S w w') : MmI w' S' m l :=
  ⟨h.h1, h.m1, h.r1.mono IaC.mono hS hk, h.h2, h.m2, h.r2.mono CsC.mono hS hk⟩
theorem MmI.below {w w' : World} {m : Mm} {l : Ml} (h : MmI w (Old w) m l) (hb : Below w.heap.size w w') : MmI w' (Old w') m l :=
  h.mono (fun _ q => Nat.lt_of_lt_of_le q hb.size) (keepOn_below hb fun _ q => q)
def mmNil : Mm := ⟨[], []⟩
def mlNil : Ml := ⟨Option.none, 0, Option.none, 0⟩
theorem MmI.nil (w : World) (S : Nat → Prop) : MmI w S mmNil mlNil := ⟨Nat.le_refl _, Nat.zero_le _, Rw.nil, Nat.le_refl _, Nat.zero_le _, Rw.nil⟩
/-- A verified program's cells have small numbers. -/
theorem cells_rng {p : Pg} : ∀ {l : List Ins} {i : Int} {v : Vs} {most m : Int}, runG p l i v most = (0, m, 0) → (∀ (j : Nat) (c : Cl), j < v.used → p.cells[j]? = some c → 0 ≤ c.n ∧ c.n ≤ 500) → ∀ (j : Nat) (c : Cl), p.cells[j]? = some c → 0 ≤ c.n ∧ c.n ≤ 500
  | [], i, v, most, m, h, hp, j, c, hj => by
    rw [runG_nil] at h
    split at h
    · injection h with _ h; injection h with _ h; exact absurd h (by decide)
    split at h
    · injection h with _ h; injection h with _ h; exact absurd h (by decide)
    rename_i h2
    exact hp j c (by have := (List.getElem?_eq_some_iff.1 hj).1; omega) hj
  | x :: l, i, v, most, m, h, hp, j, c, hj => by
    obtain ⟨v', hst, hr⟩ := run_next h
    refine cells_rng hr (fun j' c' hlt hc => ?_) j c hj
    obtain ⟨-, harg, -, k, -, hv⟩ := step_inv hst
    rcases hv with ⟨-, -, rfl⟩ | ⟨h32, -, rfl⟩
    · exact hp j' c' hlt hc
    · dsimp only at hlt
      cases hkb : keptB x.op with
      | false => rw [hkb] at hlt; exact hp j' c' hlt hc
      | true =>
        rw [hkb, if_pos rfl] at hlt
        rcases Nat.lt_succ_iff_lt_or_eq.1 hlt with q | rfl
        · exact hp j' c' q hc
        · have h17 := kept_iff.1 hkb
          unfold argP at harg
          rw [if_neg (by omega), if_neg (by omega), if_neg (by omega), if_neg (by omega), if_neg (by omega), if_neg (by rw [hkb]; decide), hc] at harg
          simp only [Bool.and_eq_true, decide_eq_true_eq] at harg
          have := harg.2
          unfold cellB at this
          simp only [decide_eq_true_eq] at this
          refine ⟨this.2.1, ?_⟩
          have h3 := this.2.2
          split at h3 <;> omega
theorem ver_cells {p : Pg} (hv : (verP p).2.2 = 0) {j : Nat} {c : Cl} (h : p.cells[j]? = some c) : 0 ≤ c.n ∧ c.n ≤ 500 := by
  obtain ⟨z, hr⟩ := ver_run hv
  exact cells_rng hr (fun j c hj _ => absurd hj (Nat.not_lt_zero _)) j c h
theorem fits_iff {p : Pg} {m : Mm} : fitsB p m = true ↔ MemOk p m := by
  unfold fitsB
  rw [Bool.and_eq_true, decide_eq_true_eq, Bool.and_eq_true, bits_all]
  constructor
  · rintro ⟨⟨h1, h2⟩, h3, h4⟩
    refine ⟨TyL.nil, h1, h3, h2, fun i l c hl hc => ?_⟩
    have hc' : m.cells[i]? = some c := hc
    exact List.all_eq_true.1 h4 (l, c) (List.mem_of_getElem? (by rw [List.getElem?_zip_eq_some]; exact ⟨hl, hc'⟩))
  · intro h
    refine ⟨⟨h.vl, h.cl⟩, h.vb, ?_⟩
    rw [List.all_eq_true]
    rintro ⟨l, c⟩ hx
    obtain ⟨i, hi⟩ := List.getElem?_of_mem hx
    rw [List.getElem?_zip_eq_some] at hi
    exact h.cb i l c hi.1 hi.2

set_option maxRecDepth 100000 in
set_option maxHeartbeats 8000000 in
theorem possible_any (op n : Int) (on : Bool) (z : Int) (w : World) (hn : 0 ≤ n ∧ n ≤ 500) :
    Calls Tryz.prog 61 #[.agg #[.int .i64 op, .int .i64 n], .agg #[.bool on, .int .i64 z]] w (RetB (possB ⟨op, n⟩ ⟨on, z⟩) w) := by
  obtain ⟨r, hr⟩ : ∃ r, possB ⟨op, n⟩ ⟨on, z⟩ = r := ⟨_, rfl⟩
  rw [hr]
  have hb1 := box_below w (Obj.cells #[.int .i64 op, .int .i64 n] 89)
  have hb2 := box_below (w.alloc (Obj.cells #[.int .i64 op, .int .i64 n] 89)) (Obj.cells #[.bool on, .int .i64 z] 83)
  have HB := Lib.hid (below_two hb1 hb2 hb1.size)
  obtain ⟨m, hm⟩ : ∃ m, capP ⟨op, n⟩ = m := ⟨_, rfl⟩
  have hr' : (!(on && timedB op) && decide (0 ≤ z ∧ z ≤ m)) = r := by rw [← hr, ← hm]; rfl
  have h1 : n + 1 < 9223372036854775808 := by omega
  clear hr hb1 hb2
  rcases (show op = 19 ∨ op = 20 ∨ op = 22 ∨ (op ≠ 19 ∧ op ≠ 20 ∧ op ≠ 22) by omega) with rfl | rfl | rfl | ⟨e1, e2, e3⟩
  · obtain rfl : n + 1 = m := hm
    have ht : timedB 19 = true := rfl
    rw [ht] at hr'
    clear ht
    cases on with
    | true =>
      have HE := Lib.hid (show false = r from hr')
      clear hr'
      go_enter Tryz.func61, Tryz.ntmps61
      go_wp2
      go_ret
      exact ⟨ret_bool HE.out, HB.out⟩
    | false =>
      have HE := Lib.hid (show decide (0 ≤ z ∧ z ≤ n + 1) = r from hr')
      have hw : IntKind.i64.wrap (n + 1) = n + 1 := IntWalk.i64_in _ (by omega)
      clear hr'
      by_cases hz : 0 ≤ z
      · have HF := Lib.hid (show decide (z ≤ n + 1) = r by rw [← HE.out]; simp [hz])
        go_enter Tryz.func61, Tryz.ntmps61
        go_wp2
        go_ret
        exact ⟨ret_bool HF.out, HB.out⟩
      · have HF := Lib.hid (show false = r by rw [← HE.out]; simp [hz])
        go_enter Tryz.func61, Tryz.ntmps61
        go_wp2
        go_ret
        exact ⟨ret_bool HF.out, HB.out⟩
  · obtain rfl : n = m := hm
    have ht : timedB 20 = true := rfl
    rw [ht] at hr'
    clear ht
    cases on with
    | true =>
      have HE := Lib.hid (show false = r from hr')
      clear hr'
      go_enter Tryz.func61, Tryz.ntmps61
      go_wp2
      go_ret
      exact ⟨ret_bool HE.out, HB.out⟩
    | false =>
      have HE := Lib.hid (show decide (0 ≤ z ∧ z ≤ n) = r from hr')
      clear hr'
      by_cases hz : 0 ≤ z
      · have HF := Lib.hid (show decide (z ≤ n) = r by rw [← HE.out]; simp [hz])
        go_enter Tryz.func61, Tryz.ntmps61
        go_wp2
        go_ret
        exact ⟨ret_bool HF.out, HB.out⟩
      · have HF := Lib.hid (show false = r by rw [← HE.out]; simp [hz])
        go_enter Tryz.func61, Tryz.ntmps61
        go_wp2
        go_ret
        exact ⟨ret_bool HF.out, HB.out⟩
  · obtain rfl : 32767 = m := hm
    have ht : timedB 22 = false := rfl
    rw [ht, Bool.and_false] at hr'
    have HE := Lib.hid (show decide (0 ≤ z ∧ z ≤ 32767) = r from hr')
    clear ht hr'
    by_cases hz : 0 ≤ z
    · have HF := Lib.hid (show decide (z ≤ 32767) = r by rw [← HE.out]; simp [hz])
      cases on <;>
      · go_enter Tryz.func61, Tryz.ntmps61
        go_wp2
        go_ret
        exact ⟨ret_bool HF.out, HB.out⟩
    · have HF := Lib.hid (show false = r by rw [← HE.out]; simp [hz])
      cases on <;>
      · go_enter Tryz.func61, Tryz.ntmps61
        go_wp2
        go_ret
        exact ⟨ret_bool HF.out, HB.out⟩
  · obtain rfl : 0 = m := by rw [← hm]; unfold capP; rw [if_neg e1, if_neg e2, if_neg e3]
    have ht : timedB op = false := by unfold timedB; simp [e1, e2]
    rw [ht, Bool.and_false] at hr'
    have HE := Lib.hid (show decide (0 ≤ z ∧ z ≤ 0) = r from hr')
    have b1 : (op == 19) = false := by simpa using e1
    have b2 : (op == 20) = false := by simpa using e2
    have b3 : (op == 22) = false := by simpa using e3
    clear hm ht hr' e1 e2 e3
    by_cases hz : 0 ≤ z
    · have HF := Lib.hid (show decide (z ≤ 0) = r by rw [← HE.out]; simp [hz])
      cases on <;>
      · go_enter Tryz.func61, Tryz.ntmps61
        go_wp2
        go_ret
        exact ⟨ret_bool HF.out, HB.out⟩
    · have HF := Lib.hid (show false = r by rw [← HE.out]; simp [hz])
      cases on <;>
      · go_enter Tryz.func61, Tryz.ntmps61
        go_wp2
        go_ret
        exact ⟨ret_bool HF.out, HB.out⟩

def FiA (W : World) (l : List Int) (g : Nat) (v : Value) (wr : World) : Prop := ∃ k : Nat, k ≤ l.length ∧ l.length - k < g ∧ v = .int .i64 (k : Int) ∧ (l.drop k).all bitB = l.all bitB ∧ wr = W
def poB (x : Cl × Cs) : Bool := possB x.1 x.2
def FiB (W : World) (l : List (Cl × Cs)) (n g : Nat) (v : Value) (wr : World) : Prop := ∃ k : Nat, k ≤ n ∧ n - k < g ∧ v = .int .i64 (k : Int) ∧ (l.drop k).all poB = l.all poB ∧ Below W.heap.size W wr
set_option maxRecDepth 100000 in
set_option maxHeartbeats 8000000 in
theorem fits_any {w : World} {p : Pg} {l : Pl} {S : Nat → Prop} {m : Mm} {ml : Ml} (hpg : PgI w S p l) (hS : ∀ b, S b → b < w.heap.size) (hm : MmI w S m ml) (hcn : ∀ (j : Nat) (c : Cl), p.cells[j]? = some c → 0 ≤ c.n ∧ c.n ≤ 500) :
    Calls Tryz.prog 36 #[pgV p l, mmV m ml] w (RetB (fitsB p m) w) := by
  obtain ⟨B1, k1, B2, k2, B3, k3, B4, k4⟩ := l
  obtain ⟨D1, d1, D2, d2⟩ := ml
  have pm2 := hpg.m2
  have ph2 := hpg.h2
  have pm3 := hpg.m3
  have ph3 := hpg.h3
  have mm1 := hm.m1
  have mh1 := hm.h1
  have mm2 := hm.m2
  have mh2 := hm.h2
  dsimp only at pm2 ph2 pm3 ph3 mm1 mh1 mm2 mh2
  unfold maxLen at pm2 pm3 mm1 mm2
  obtain ⟨r, hr⟩ : ∃ r, fitsB p m = r := ⟨_, rfl⟩
  rw [hr]
  have hr' : (decide (m.vals.length = p.rls.length ∧ m.cells.length = p.cells.length) && (m.vals.all bitB && (p.cells.zip m.cells).all poB)) = r := hr
  have hb1 := box_below w (Obj.cells (pgC p ⟨B1, k1, B2, k2, B3, k3, B4, k4⟩) 35)
  have hb2 := box_below (w.alloc (Obj.cells (pgC p ⟨B1, k1, B2, k2, B3, k3, B4, k4⟩) 35)) (Obj.cells (mmC m ⟨D1, d1, D2, d2⟩) 53)
  have hb0 := below_two hb1 hb2 hb1.size
  have HB0 := Lib.hid hb0
  have HR3 := Lib.hid (hpg.r3.mono CeC.mono (fun _ q => q) (keepOn_below hb0 fun b q => hS b q))
  have HV := Lib.hid (hm.r1.mono IaC.mono (fun _ q => q) (keepOn_below hb0 fun b q => hS b q))
  have HC := Lib.hid (hm.r2.mono CsC.mono (fun _ q => q) (keepOn_below hb0 fun b q => hS b q))
  have HS := Lib.hid hS
  have HCN := Lib.hid hcn
  have hbx2 := heap_alloc_new (w.alloc (Obj.cells (pgC p ⟨B1, k1, B2, k2, B3, k3, B4, k4⟩) 35)) (Obj.cells (mmC m ⟨D1, d1, D2, d2⟩) 53)
  have hbx1 := (hb2.block w.heap.size (by rw [World.size_alloc]; omega)).trans (heap_alloc_new w (Obj.cells (pgC p ⟨B1, k1, B2, k2, B3, k3, B4, k4⟩) 35))
  have hs2 : ((w.alloc (Obj.cells (pgC p ⟨B1, k1, B2, k2, B3, k3, B4, k4⟩) 35)).alloc (Obj.cells (mmC m ⟨D1, d1, D2, d2⟩) 53)).heap.size = w.heap.size + 2 := by simp only [World.size_alloc]
  rw [World.size_alloc] at hbx2
  have HX1 := Lib.hid hbx1
  have HX2 := Lib.hid hbx2
  have HS2 := Lib.hid hs2
  clear hr hb0 hb1 hb2 hpg hm hS hcn hbx1 hbx2 hs2
  by_cases hl : m.vals.length = p.rls.length
  case neg =>
    have HE := Lib.hid (show false = r by rw [← hr', decide_eq_false (fun q => hl q.1)]; rfl)
    have hne : ((m.vals.length : Int) != (p.rls.length : Int)) = true := by simp; omega
    clear hr' hl
    go_enter Tryz.func36, Tryz.ntmps36
    go_wp2
    go_ret
    exact ⟨ret_bool HE.out, HB0.out⟩
  by_cases hl2 : m.cells.length = p.cells.length
  case neg =>
    have HE := Lib.hid (show false = r by rw [← hr', decide_eq_false (fun q => hl2 q.2)]; rfl)
    have hne : ((m.vals.length : Int) != (p.rls.length : Int)) = false := by simp; omega
    have hne2 : ((m.cells.length : Int) != (p.cells.length : Int)) = true := by simp; omega
    clear hr' hl hl2
    go_enter Tryz.func36, Tryz.ntmps36
    go_wp2
    go_ret
    exact ⟨ret_bool HE.out, HB0.out⟩
  have hall : (m.vals.all bitB && (p.cells.zip m.cells).all poB) = r := by rw [← hr', decide_eq_true ⟨hl, hl2⟩]; rfl
  have hne : ((m.vals.length : Int) != (p.rls.length : Int)) = false := by simp; omega
  have hne2 : ((m.cells.length : Int) != (p.cells.length : Int)) = false := by simp; omega
  have HZL := Lib.hid (show (p.cells.zip m.cells).length = p.cells.length by rw [List.length_zip]; omega)
  have HALL := Lib.hid hall
  have hle : p.cells.length ≤ m.cells.length := by omega
  clear hr' hl hl2 hall
  go_enter Tryz.func36, Tryz.ntmps36
  go_wp2
  generalize (w.alloc (Obj.cells (pgC p ⟨B1, k1, B2, k2, B3, k3, B4, k4⟩) 35)).alloc (Obj.cells (mmC m ⟨D1, d1, D2, d2⟩) 53) = W at *
  have q2 : W.cell? ⟨w.heap.size, 2, Option.none⟩ = some (.slice B3 p.cells.length k3) := by simp [World.cell?, HX1.out]
  have t1 : W.cell? ⟨w.heap.size + 1, 1, Option.none⟩ = some (.slice D2 m.cells.length d2) := by simp [World.cell?, HX2.out]
  have hs2 := HS2.out
  have hlt0 : w.heap.size < W.heap.size := by omega
  have hlt1 : w.heap.size + 1 < W.heap.size := by omega
  clear hne hne2 hs2
  go_loopg [28] (m.vals.length + 1) (fun g v wr => FiA W m.vals g v wr)
  case atStart => exact ⟨0, Nat.zero_le _, by omega, rfl, by rw [List.drop_zero], rfl⟩
  case round =>
    obtain ⟨k, hk, hgk, rfl, hal, rfl⟩ := hrel
    by_cases hlt : k < m.vals.length
    case pos =>
      obtain ⟨b, o, z, hA, hSb, hz, y0⟩ := iaAt HV.out hlt
      have hA2 : D1 = some ⟨b, o, Option.none⟩ := hA
      subst hA2
      have hget : m.vals[k] = z := by
        rw [List.getElem?_eq_getElem hlt] at hz
        injection hz
      rw [List.drop_eq_getElem_cons hlt, hget, List.all_cons] at hal
      have HAL := Lib.hid hal
      have hki : (k : Int) < (m.vals.length : Int) := by omega
      clear hal hz hSb hget
      rcases (show z = 0 ∨ z = 1 ∨ (z ≠ 0 ∧ z ≠ 1) by omega) with rfl | rfl | ⟨e0, e1⟩
      · go_wp2
        go_roundg (m.vals.length - k)
        case measure => omega
        case rel => exact ⟨k + 1, by omega, by omega, by go_num, HAL.out, rfl⟩
      · go_wp2
        go_roundg (m.vals.length - k)
        case measure => omega
        case rel => exact ⟨k + 1, by omega, by omega, by go_num, HAL.out, rfl⟩
      · have HE := Lib.hid (show false = r by rw [← HALL.out, ← HAL.out]; simp [bitB, e0, e1])
        have f0 : (z != 0) = true := by simpa using e0
        have f1 : (z != 1) = true := by simpa using e1
        clear e0 e1 HAL
        go_wp2
        go_ret
        exact ⟨ret_bool HE.out, HB0.out⟩
    obtain rfl : k = m.vals.length := by omega
    rw [List.drop_length] at hal
    have HA2 := Lib.hid (show (p.cells.zip m.cells).all poB = r by rw [← HALL.out, ← hal]; rfl)
    clear hal hlt
    go_wp2
    go_loopg [42] (p.cells.length + 1) (fun g v wq => FiB wr (p.cells.zip m.cells) p.cells.length g v wq)
    case atStart => exact ⟨0, Nat.zero_le _, by omega, rfl, by rw [List.drop_zero], Below.refl _ _⟩
    case round =>
      rename World => wq
      obtain ⟨j, hj, hgj, rfl, hal, hbq⟩ := hrel
      have hsq := hbq.size
      have HBQ := Lib.hid hbq
      have hbo := below_two HB0.out (hbq.mono (by omega)) (by omega)
      by_cases hlt : j < p.cells.length
      case neg =>
        obtain rfl : j = p.cells.length := by omega
        rw [List.drop_eq_nil_of_le (by rw [HZL.out]; exact Nat.le_refl _)] at hal
        have HE := Lib.hid (show true = r by rw [← HA2.out, ← hal]; rfl)
        have HBO := Lib.hid (HB0.out.trans (hbq.mono (by omega)))
        clear hal hlt hbq hbo
        go_wp2
        go_ret
        exact ⟨ret_bool HE.out, HBO.out⟩
      have hko : KeepOn S wr wq := keepOn_below hbq fun b q => by have := HS.out b q; omega
      obtain ⟨b, o, lc, hA, hSb, hx, y0, y1⟩ := ceAt (HR3.out.mono CeC.mono (fun _ q => q) hko) hlt
      obtain ⟨b', o', cc, hA', hSb', hx', u0, u1⟩ := csAt (HC.out.mono CsC.mono (fun _ q => q) hko) (show j < m.cells.length by omega)
      have hA2 : B3 = some ⟨b, o, Option.none⟩ := hA
      subst hA2
      have hA3 : D2 = some ⟨b', o', Option.none⟩ := hA'
      subst hA3
      have hzk : (p.cells.zip m.cells)[j]? = some (lc, cc) := by rw [List.getElem?_zip_eq_some]; exact ⟨hx, hx'⟩
      have hget : (p.cells.zip m.cells)[j]'(by rw [HZL.out]; exact hlt) = (lc, cc) := by
        rw [List.getElem?_eq_getElem (by rw [HZL.out]; exact hlt)] at hzk
        injection hzk
      rw [List.drop_eq_getElem_cons (by rw [HZL.out]; exact hlt), hget, List.all_cons] at hal
      have hn := HCN.out j _ hx
      obtain ⟨op, n⟩ := lc
      obtain ⟨on, z⟩ := cc
      dsimp only at y0 y1 u0 u1 hn
      have hpo : poB (⟨op, n⟩, ⟨on, z⟩) = possB ⟨op, n⟩ ⟨on, z⟩ := rfl
      obtain ⟨pb, hpb⟩ : ∃ pb, possB ⟨op, n⟩ ⟨on, z⟩ = pb := ⟨_, rfl⟩
      have hps := fun (W' : World) => possible_any op n on z W' hn
      rw [hpo, hpb] at hal
      rw [hpb] at hps
      have HPS := Lib.hid hps
      have HAL := Lib.hid hal
      have hx2 := (hbq.block (w.heap.size + 1) hlt1).trans HX2.out
      have t1' : wq.cell? ⟨w.heap.size + 1, 1, Option.none⟩ = some (.slice (some ⟨b', o', Option.none⟩) m.cells.length d2) := by simp [World.cell?, hx2]
      have hbk : b < wq.heap.size := by have := HS.out b hSb; omega
      have hbk' : b' < wq.heap.size := by have := HS.out b' hSb'; omega
      have hlt2 : w.heap.size + 1 < wq.heap.size := by omega
      have hji : (j : Int) < (p.cells.length : Int) := by omega
      have hji2 : (j : Int) < (m.cells.length : Int) := by omega
      have hbx := box_below wq (Obj.cells #[.int .i64 op, .int .i64 n] 89)
      have HBX := Lib.hid (hbq.alloc hbq.size (Obj.cells #[.int .i64 op, .int .i64 n] 89))
      clear hal hx hx' hzk hget hpo hpb hps hSb hSb' hbq hbo hx2 hko hn hbx q2 t1
      go_upto_region 12 with fail
      go_region_law ((go_simp; go_at_call 61; refine (HPS.out _).mono ?_; rintro e5 w5 ⟨rfl, hb5⟩))
      all_goals
        have HB5 := Lib.hid (below_two (below_drew HBX.out) hb5 (below_drew HBX.out).size)
        clear hb5
        cases pb with
        | true =>
          go_wp2
          go_roundg (p.cells.length - j)
          case measure => omega
          case rel => exact ⟨j + 1, by omega, by omega, by go_num, HAL.out, HB5.out⟩
        | false =>
          have HE := Lib.hid (show false = r by rw [← HA2.out, ← HAL.out]; rfl)
          have HBO := Lib.hid (HB0.out.trans (HB5.out.mono (by omega)))
          go_wp2
          go_ret
          exact ⟨ret_bool HE.out, HBO.out⟩
end Go.Proofs.YtcikenlflcofbaaGreatDoor
