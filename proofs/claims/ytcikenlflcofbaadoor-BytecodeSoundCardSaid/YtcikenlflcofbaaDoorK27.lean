/-
  The sanity check of the laws of layer 27, and the sizes that its laws ask for.
-/
import Derived.Test.YtcikenlflcofbaaDoorCmp
import Derived.Test.YtcikenlflcofbaaDoorVfJ
namespace Go.Proofs.YtcikenlflcofbaaDoor
open Go.RowKit

def kRs : List Rl := [⟨[114], [97, 32, 97, 110, 100, 32, 114, 105, 115, 101, 40, 98, 41]⟩]
def kIn : List Sg := [⟨[97], 1⟩, ⟨[98], 1⟩]
def kPg : Pg := ⟨kIn, [[114]], [⟨17, 0⟩], [⟨30, 0⟩, ⟨30, 1⟩, ⟨17, 0⟩, ⟨5, 0⟩, ⟨32, 0⟩]⟩
theorem kCmp : cmpP kRs kIn = (kPg, 0, 0) := by kernel_rfl
theorem kVer : verP kPg = (0, 2, 0) := by kernel_rfl
def rlL (r : Rl) : List Value := [nmV r.nm, nmV r.text]
/-- Rules and signals in a box. -/
theorem rw_box {α : Type} {R : World → (Nat → Prop) → List Value → α → Prop} {size : Nat} (w : World) (e : TypeId) (xs : List α) (f : α → List Value) (cs : Array Value) (hcs : cs.toList = xs.flatMap f) (hl : cs.size = xs.length * size) (hm : xs.length ≤ maxLen) (hf : ∀ x ∈ xs, (f x).length = size)
    (hR : ∀ x ∈ xs, R (w.alloc (.cells cs e)) (fun b => b < (w.alloc (.cells cs e)).heap.size) (f x) x) : Rw R size (w.alloc (.cells cs e)) (fun b => b < (w.alloc (.cells cs e)).heap.size) (some ⟨w.heap.size, 0, Option.none⟩) xs.length xs := by
  have h := World.ownsRow_lit (e := e) (size := size) w cs xs.length (base := w.heap.size) (Nat.le_refl _) hm hl
  rw [hcs] at h
  exact Rw.of_own h rfl hf hR (fun b _ hb => hb)

theorem RetCmp.of {rs : List Rl} {ins : List Sg} {p : Pg} {a er : Int} {w w' : World} {e : Ending} (hc : cmpP rs ins = (p, a, er)) (h : RetCmp rs ins w e w') :
    ∃ A1 c1 A2 c2 A3 c3 A4 c4, e = .returned (.tuple #[.agg #[.slice A1 p.ins.length c1, .slice A2 p.rls.length c2, .slice A3 p.cells.length c3, .slice A4 p.code.length c4], .int .i64 a, .int .i64 er]) ∧ PgI w' (New w w') p ⟨A1, c1, A2, c2, A3, c3, A4, c4⟩ ∧ Below w.heap.size w w' := by
  obtain ⟨⟨A1, c1, A2, c2, A3, c3, A4, c4⟩, he, hp, hb⟩ := h
  rw [hc] at he hp
  exact ⟨A1, c1, A2, c2, A3, c3, A4, c4, he, hp, hb⟩
set_option maxRecDepth 100000 in
set_option maxHeartbeats 8000000 in
theorem known_any (w : World) (hw : Lw w) : Calls Tryd.prog 12 #[] w (RetB true w) := by
  have hb1 := box_below w (Obj.cells #[nmV [114], nmV [97, 32, 97, 110, 100, 32, 114, 105, 115, 101, 40, 98, 41]] 27)
  have hb2 := box_below (w.alloc (Obj.cells #[nmV [114], nmV [97, 32, 97, 110, 100, 32, 114, 105, 115, 101, 40, 98, 41]] 27)) (Obj.cells #[nmV [97], .int .i64 1, nmV [98], .int .i64 1] 58)
  have hr1 := rw_box (R := RlC) (size := 2) w 27 kRs rlL #[nmV [114], nmV [97, 32, 97, 110, 100, 32, 114, 105, 115, 101, 40, 98, 41]] rfl rfl (by decide) (fun _ _ => rfl) (fun x hx => by
    have : x = ⟨[114], [97, 32, 97, 110, 100, 32, 114, 105, 115, 101, 40, 98, 41]⟩ := List.mem_singleton.1 hx
    subst this
    exact ⟨rfl, by decide, by decide⟩)
  have hr2 := rw_box (R := SgC) (size := 2) (w.alloc (Obj.cells #[nmV [114], nmV [97, 32, 97, 110, 100, 32, 114, 105, 115, 101, 40, 98, 41]] 27)) 58 kIn sgL #[nmV [97], .int .i64 1, nmV [98], .int .i64 1] rfl rfl (by decide) (fun _ _ => rfl) (fun x hx => by
    unfold kIn at hx
    simp only [List.mem_cons, List.not_mem_nil, or_false] at hx
    rcases hx with rfl | rfl <;> exact ⟨rfl, by decide, by decide⟩)
  have hr1' := hr1.mono RlC.mono (fun b q => Nat.lt_of_lt_of_le q hb2.size) (keepOn_below hb2 fun b q => q)
  have HB := Lib.hid (below_two hb1 hb2 hb1.size)
  have hc := compile_any _ 1 kRs _ 2 kIn _ (hw.below HB.out) (Nat.le_refl _) (by decide) hr1' (Nat.le_refl _) (by decide) hr2
  rw [World.size_alloc] at hc
  have HC := Lib.hid hc
  have hsz := HB.out.size
  clear hc hb1 hb2 hr1 hr2 hr1'
  go_enter Tryd.func12, Tryd.ntmps12
  go_wp2_with fail
  generalize (w.alloc (Obj.cells #[nmV [114], nmV [97, 32, 97, 110, 100, 32, 114, 105, 115, 101, 40, 98, 41]] 27)).alloc (Obj.cells #[nmV [97], .int .i64 1, nmV [98], .int .i64 1] 58) = W at *
  refine HC.out.mono ?_
  intro e w1 hret
  obtain ⟨A1, c1, A2, c2, A3, c3, A4, c4, rfl, hpg, hb1⟩ := hret.of kCmp
  obtain ⟨b, o, i, hA, hSb, hx, y0, y1⟩ := inAt hpg.r4 (show 2 < 5 by decide)
  cases hx
  dsimp only at hA
  subst hA
  have hbb := hSb.2
  have hb4 : 5 ≤ c4 := hpg.h4
  have hm4 : c4 ≤ maxLen := hpg.m4
  unfold maxLen at hm4
  have hbx := box_below w1 (Obj.cells (pgC kPg ⟨A1, c1, A2, c2, A3, c3, some ⟨b, o, Option.none⟩, c4⟩) 32)
  have HD := Lib.hid (Depth_any ((hpg.mono (fun b q => (show b < w1.heap.size from q.2)) (KeepOn.refl _ _)).below hbx))
  have HB2 := Lib.hid ((HB.out.trans (hb1.mono hsz)).trans (hbx.mono (Nat.le_trans hsz hb1.size)))
  have hs1 := hb1.size
  clear HC hret hpg hb1 hbx hSb
  go_wp2_with fail
  refine HD.out.mono ?_
  rintro e w3 ⟨rfl, hb3⟩
  have HB3 := Lib.hid (HB2.out.trans (hb3.mono (by rw [World.size_alloc]; omega)))
  clear HD hb3
  go_wp2
  go_ret
  exact ⟨rfl, HB3.out⟩
def fewP (rs : List Rl) (ins : List Sg) : Bool := !decide (20 < rs.length ∨ 70 < ins.length) && rs.all fun r => !decide (200 < r.text.length ∨ 60 < r.nm.length)
def FeR (w : World) (rs : List Rl) (g : Nat) (v : Value) (wr : World) : Prop :=
  ∃ k : Nat, k ≤ rs.length ∧ rs.length - k < g ∧ v = .int .i64 (k : Int) ∧ (rs.drop k).all (fun r => !decide (200 < r.text.length ∨ 60 < r.nm.length)) = rs.all (fun r => !decide (200 < r.text.length ∨ 60 < r.nm.length)) ∧ Below w.heap.size w wr
set_option maxRecDepth 100000 in
set_option maxHeartbeats 8000000 in
theorem few_any (A : Option Addr) (c : Nat) (rs : List Rl) (A' : Option Addr) (c' : Nat) (ins : List Sg) (w : World) (hr : Rw RlC 2 w (fun b => b < w.heap.size) A rs.length rs) :
    Calls Tryd.prog 11 #[.slice A rs.length c, .slice A' ins.length c'] w (RetB (fewP rs ins) w) := by
  have HR := Lib.hid hr
  obtain ⟨r, hrr⟩ : ∃ r, fewP rs ins = r := ⟨_, rfl⟩
  rw [hrr]
  unfold fewP at hrr
  clear hr
  rcases (show (20 : Int) < (rs.length : Int) ∨ ((rs.length : Int) ≤ 20 ∧ (70 : Int) < (ins.length : Int)) ∨ ((rs.length : Int) ≤ 20 ∧ (ins.length : Int) ≤ 70) by omega) with d0 | ⟨d0, d1⟩ | ⟨d0, d1⟩
  case inr.inr =>
    rw [decide_eq_false (by omega)] at hrr
    have HRR := Lib.hid (show (rs.all fun r => !decide (200 < r.text.length ∨ 60 < r.nm.length)) = r by simpa using hrr)
    clear hrr
    go_enter Tryd.func11, Tryd.ntmps11
    go_wp2
    go_loopg [17] (rs.length + 1) (fun g v wr => FeR w rs g v wr)
    case atStart => exact ⟨0, Nat.zero_le _, by omega, rfl, by rw [List.drop_zero], Below.refl _ _⟩
    case round =>
      obtain ⟨k, hk, hgk, rfl, hall, hbel⟩ := hrel
      by_cases hlt : k < rs.length
      case pos =>
        obtain ⟨b, o, x, hA, hSb, hx, hxl, htl, y0, y1⟩ := rlAt (HR.out.mono RlC.mono (fun _ q => q) (keepOn_below hbel fun _ q => q)) hlt
        subst hA
        have hget : rs[k] = x := by
          rw [List.getElem?_eq_getElem hlt] at hx
          injection hx
        rw [List.drop_eq_getElem_cons hlt, hget, List.all_cons] at hall
        obtain ⟨nm, tx⟩ := x
        dsimp only at hxl htl y0 y1 hall
        have hbk : b < wr.heap.size := Nat.lt_of_lt_of_le hSb hbel.size
        have HB := Lib.hid (hbel.alloc hbel.size (Obj.cells #[.string ⟨nm.toArray⟩, .string ⟨tx.toArray⟩] 27))
        have HALL := Lib.hid hall
        unfold maxLen at hxl htl
        clear hall hx hget hbel hSb
        rcases (show (200 : Int) < (tx.length : Int) ∨ ((tx.length : Int) ≤ 200 ∧ (60 : Int) < (nm.length : Int)) ∨ ((tx.length : Int) ≤ 200 ∧ (nm.length : Int) ≤ 60) by omega) with e0 | ⟨e0, e1⟩ | ⟨e0, e1⟩
        case inr.inr =>
          have hall := HALL.out
          rw [decide_eq_false (by omega), Bool.not_false, Bool.true_and] at hall
          have HALL2 := Lib.hid hall
          clear hall HALL
          go_wp2
          go_roundg (rs.length - k)
          case measure => omega
          case rel => exact ⟨k + 1, by omega, by omega, by go_num, HALL2.out, HB.out⟩
        all_goals
          have HE := Lib.hid (show false = r by rw [← HRR.out, ← HALL.out, decide_eq_true (by omega)]; rfl)
          clear HALL HRR
          go_wp2
          go_ret
          exact ⟨ret_bool HE.out, HB.out⟩
      obtain rfl : k = rs.length := by omega
      rw [List.drop_length] at hall
      have HE := Lib.hid (show true = r by rw [← HRR.out, ← hall]; rfl)
      have HB := Lib.hid hbel
      clear hall hlt HRR hbel
      go_wp2
      go_ret
      exact ⟨ret_bool HE.out, HB.out⟩
  all_goals
    have HE := Lib.hid (show false = r by rw [← hrr, decide_eq_true (by omega)]; rfl)
    clear hrr
    go_enter Tryd.func11, Tryd.ntmps11
    go_wp2
    go_ret
    exact ⟨ret_bool HE.out, Below.refl _ _⟩
end Go.Proofs.YtcikenlflcofbaaDoor
