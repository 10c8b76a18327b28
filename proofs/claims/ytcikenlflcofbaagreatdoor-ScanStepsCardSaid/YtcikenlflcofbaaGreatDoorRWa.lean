/-
  The reference's wants: the kinds of an instruction's operands and of its result.
-/
import Derived.Test.YtcikenlflcofbaaGreatDoorR27
import Derived.Test.YtcikenlflcofbaaGreatDoorWnt
import Derived.Test.YtcikenlflcofbaaGreatDoorVfKi
import Derived.Test.YtcikenlflcofbaaGreatDoorExcP
namespace Go.Proofs.YtcikenlflcofbaaGreatDoor
open Go.RowKit

def wantL7 (op : Int) : List Int := if op = 30 ∨ op = 31 then [] else if op = 32 then [1] else wantL op
def wantR7 (p : Pg) (c : Ins) : Int := if c.op = 30 then (p.ins.getD c.a.toNat ⟨[], 0⟩).kind else if c.op = 31 then 1 else if c.op = 32 then 0 else wantR c.op
/-- Whether an operand has the wanted kind. -/
def okW (top want : List Int) (i : Nat) : Prop := top.getD i 0 = if want.getD i 0 = 0 then top.getD 1 0 else want.getD i 0
theorem op_all {op : Int} (h : 0 ≤ opnP op) : op = 1 ∨ op = 2 ∨ op = 30 ∨ op = 31 ∨ op = 32 ∨ op = 4 ∨ op = 5 ∨ op = 6 ∨ op = 7 ∨ op = 8 ∨ op = 9 ∨ op = 10 ∨ op = 11 ∨ op = 12 ∨ op = 13 ∨ op = 14 ∨ op = 15 ∨ op = 16 ∨ op = 17 ∨ op = 18 ∨ op = 19 ∨ op = 20 ∨ op = 21 ∨ op = 22 := by
  have := op_cases h
  omega
theorem want_len {op : Int} (h : 0 ≤ opnP op) : (wantL7 op).length = (opnP op).toNat := by
  rcases op_all h with rfl | rfl | rfl | rfl | rfl | rfl | rfl | rfl | rfl | rfl | rfl | rfl | rfl | rfl | rfl | rfl | rfl | rfl | rfl | rfl | rfl | rfl | rfl | rfl <;> rfl
theorem want_pos {op : Int} (h : 0 ≤ opnP op) : ∀ x ∈ wantL7 op, x = 0 ∨ x = 1 ∨ x = 2 := by
  rcases op_all h with rfl | rfl | rfl | rfl | rfl | rfl | rfl | rfl | rfl | rfl | rfl | rfl | rfl | rfl | rfl | rfl | rfl | rfl | rfl | rfl | rfl | rfl | rfl | rfl <;> decide
set_option maxHeartbeats 4000000 in
theorem knd_w {p : Pg} {c : Ins} {top : List Int} (h : 0 ≤ opnP c.op) (hn : top.length = (opnP c.op).toNat) :
    ((∀ i, i < (wantL7 c.op).length → okW top (wantL7 c.op) i) → ∃ k, kndP p c top = some k ∧ (c.op ≠ 32 → k = if wantR7 p c = 0 ∧ c.op = 16 then top.getD 1 0 else wantR7 p c)) ∧
      (∀ i, i < (wantL7 c.op).length → ¬ okW top (wantL7 c.op) i → kndP p c top = none) := by
  obtain ⟨op, a⟩ := c
  dsimp only at *
  rcases op_all h with rfl | rfl | rfl | rfl | rfl | rfl | rfl | rfl | rfl | rfl | rfl | rfl | rfl | rfl | rfl | rfl | rfl | rfl | rfl | rfl | rfl | rfl | rfl | rfl
  all_goals
    clear h
    have e := hn
    rw [← want_len (by decide)] at e
  all_goals
    simp only [opnP] at hn
  all_goals
    rcases top with _ | ⟨x, _ | ⟨y, _ | ⟨z, _ | ⟨u, t⟩⟩⟩⟩ <;> first | (exfalso; revert e; simp [wantL7, wantL, arityP]; done) | skip
  all_goals
    constructor
    · intro hk
      have h0 := hk 0
      have h1 := hk 1
      have h2 := hk 2
      clear hk
      simp [okW, wantL7, wantL, arityP, sigP] at h0 h1 h2
      simp [kndP, wantR7, wantR, sigP, *]
    · intro i hi hb
      rcases i with _ | _ | _ | i
      all_goals
        first
          | (exfalso; simp [wantL7, wantL, arityP] at hi; done)
          | (exfalso; simp [wantL7, wantL, arityP] at hi; omega)
          | (exfalso; simp [okW, wantL7, wantL, arityP, sigP] at hb; done)
          | (simp [okW, wantL7, wantL] at hb; simp [kndP, hb]; done)
          | (simp [okW, wantL7, wantL] at hb; simp [kndP]; intros; simp_all; done)
          | (simp [okW, wantL7, wantL] at hb; simp [kndP]; intro h1 h2; exact hb h2)
          | (simp [okW, wantL7, wantL] at hb; simp [kndP]; intro h1 h2; exact hb h2.symm)
          | (simp [okW, wantL7, wantL, arityP, sigP] at hb; simp [kndP, sigP, hb]; done)
          | (simp [okW, wantL7, wantL, arityP, sigP] at hb; simp [kndP, sigP]; intros; simp_all; done)
theorem ia_of_rws {w : World} {A : Option Addr} {n : Nat} {xs : List Int} (h : Rws IntC 1 w w.heap.size A n xs) : Rw IaC 1 w (Old w) A n xs := ⟨h.1, fun hn => by
  obtain ⟨b, o, e, hb, hr⟩ := h.2 hn
  exact ⟨b, o, e, hb, fun k x hx => by
    obtain ⟨cs, hl, ⟨rfl, -⟩, hat⟩ := hr k x hx
    exact ⟨_, hl, rfl, hat⟩⟩⟩
def RetW7 (p : Pg) (c : Ins) (w : World) (e : Ending) (w' : World) : Prop :=
  ∃ A, e = .returned (.tuple #[.slice A (wantL7 c.op).length (wantL7 c.op).length, .int .i64 (wantR7 p c)]) ∧ Rw IaC 1 w' (Old w') A (wantL7 c.op).length (wantL7 c.op) ∧ Below w.heap.size w w'
set_option maxRecDepth 100000 in
set_option maxHeartbeats 8000000 in
theorem rwants7_any {w : World} {p : Pg} {l : Pl} (h : PgI w (Old w) p l) (op a : Int) (ho : 0 ≤ opnP op) (h30 : op = 30 → ∃ u : Nat, a = (u : Int) ∧ u < p.ins.length) :
    Calls Tryz.prog 63 #[pgV p l, .agg #[.int .i64 op, .int .i64 a]] w (RetW7 p ⟨op, a⟩ w) := by
  have hb1 := box_below w (Obj.cells (pgC p l) 35)
  have HB := Lib.hid (below_two hb1 (box_below (w.alloc (Obj.cells (pgC p l) 35)) (Obj.cells #[.int .i64 op, .int .i64 a] 76)) hb1.size)
  have HR1 := Lib.hid h.r1
  have l1 := h.h1
  have m1 := h.m1
  unfold maxLen at m1
  obtain ⟨ins, rls, cells, code⟩ := p
  obtain ⟨B1, k1, B2, k2, B3, k3, B4, k4⟩ := l
  dsimp only at *
  clear h hb1
  by_cases e30 : op = 30
  · subst e30
    obtain ⟨u, rfl, hu⟩ := h30 rfl
    obtain ⟨b, o, s, hA, hSb, hx, -, -, y0, y1⟩ := sgAt HR1.out hu
    subst hA
    have hbk : b < w.heap.size := hSb
    have HE := Lib.hid (show wantR7 ⟨ins, rls, cells, code⟩ ⟨30, (u : Int)⟩ = s.kind by
      unfold wantR7
      rw [if_pos rfl]
      dsimp only
      rw [Int.toNat_natCast, List.getD_eq_getElem?_getD, hx]
      rfl)
    obtain ⟨nm, kd⟩ := s
    dsimp only at y0 y1 HE
    have hui : (u : Int) < (ins.length : Int) := by omega
    clear hx hSb
    go_enter Tryz.func63, Tryz.ntmps63
    go_upto_region 3 with fail
    go_region
    go_wp2
    go_ret2
    refine ⟨Option.none, ?_, Rw.nil, below_drew HB.out⟩
    rw [HE.out]
    rfl
  clear h30
  by_cases e31 : op = 31
  · subst e31
    go_enter Tryz.func63, Tryz.ntmps63
    go_wp2
    go_ret2
    exact ⟨Option.none, rfl, Rw.nil, HB.out⟩
  by_cases e32 : op = 32
  · subst e32
    have hbx := below_two HB.out (box_below ((w.alloc (Obj.cells (pgC ⟨ins, rls, cells, code⟩ ⟨B1, k1, B2, k2, B3, k3, B4, k4⟩) 35)).alloc (Obj.cells #[.int .i64 32, .int .i64 a] 76)) (Obj.cells #[.int .i64 1] 3)) HB.out.size
    have hrr := ia_of_rws (rws_ints ((w.alloc (Obj.cells (pgC ⟨ins, rls, cells, code⟩ ⟨B1, k1, B2, k2, B3, k3, B4, k4⟩) 35)).alloc (Obj.cells #[.int .i64 32, .int .i64 a] 76)) [1] (by decide))
    simp only [World.size_alloc] at hrr
    have HBX := Lib.hid hbx
    have HRR := Lib.hid hrr
    clear hbx hrr
    go_enter Tryz.func63, Tryz.ntmps63
    go_wp2
    go_ret2
    have hw : wantL7 32 = [1] := rfl
    refine ⟨_, rfl, ?_, HBX.out⟩
    dsimp only
    rw [hw]
    exact HRR.out
  have hop := op_cases ho
  have u30 : (op == 30) = false := by simpa using e30
  have u31 : (op == 31) = false := by simpa using e31
  have u32 : (op == 32) = false := by simpa using e32
  have HW := Lib.hid (fun W => rwants_any op W (by omega) (by omega) (by omega))
  have HL := Lib.hid (show wantL7 op = wantL op by unfold wantL7; rw [if_neg (by omega), if_neg (by omega)])
  have HE := Lib.hid (show wantR7 ⟨ins, rls, cells, code⟩ ⟨op, a⟩ = wantR op by unfold wantR7; dsimp only; rw [if_neg (by omega), if_neg (by omega), if_neg (by omega)])
  clear hop e30 e31 e32
  go_enter Tryz.func63, Tryz.ntmps63
  go_wp2_with fail
  refine (HW.out _).mono ?_
  rintro e w5 ⟨A5, rfl, hr5, hb5⟩
  have HB5 := Lib.hid (below_two HB.out hb5 HB.out.size)
  have HR5 := Lib.hid (ia_of_rws hr5)
  clear hr5 hb5
  go_wp2
  go_ret2
  refine ⟨A5, ?_, ?_, HB5.out⟩
  · rw [HE.out]
    dsimp only
    rw [HL.out]
    rfl
  · dsimp only
    rw [HL.out]
    exact HR5.out
end Go.Proofs.YtcikenlflcofbaaGreatDoor
