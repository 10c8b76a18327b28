/-
  Format of the program.
-/
import Derived.Test.YtmbmngnnfkdngaaGreatDoorFmt
namespace Go.Proofs.YtmbmngnnfkdngaaGreatDoor
open Go.RowKit

theorem commaL_len {M : Nat} : ∀ xs : List (List UInt8), (∀ x ∈ xs, x.length ≤ M) → (commaL xs).length ≤ xs.length * (M + 2)
  | [], _ => by simp [commaL]
  | [a], h => by have := h a (by simp); simp [commaL]; omega
  | a :: b :: r, h => by
    have h1 := h a (by simp)
    have h2 := commaL_len (b :: r) (fun x hx => h x (List.mem_cons_of_mem _ hx))
    simp only [commaL, List.length_append, List.length_cons, List.length_nil] at h2 ⊢
    rw [Nat.succ_mul] at h2 ⊢
    rw [Nat.succ_mul]
    omega
theorem word_len {op : Int} (h1 : 4 ≤ op) (h2 : op ≤ 22) : (wordP op).length ≤ 5 := by
  have hop : op = 4 ∨ op = 5 ∨ op = 6 ∨ op = 7 ∨ op = 8 ∨ op = 9 ∨ op = 10 ∨ op = 11 ∨ op = 12 ∨ op = 13 ∨ op = 14 ∨ op = 15 ∨ op = 16 ∨ op = 17 ∨ op = 18 ∨ op = 19 ∨ op = 20 ∨ op = 21 ∨ op = 22 := by omega
  rcases hop with rfl | rfl | rfl | rfl | rfl | rfl | rfl | rfl | rfl | rfl | rfl | rfl | rfl | rfl | rfl | rfl | rfl | rfl | rfl
  all_goals decide
theorem arity_le (op : Int) : arityP op ≤ 3 := by
  unfold arityP
  repeat' split
  all_goals omega
theorem fmt_len : ∀ (d : Nat) (x : Ex), okG d x → (fmtG d x).length ≤ 40 * 4 ^ d
  | 0, _, h => h.elim
  | d + 1, .mk op n nm ks, h => by
    obtain ⟨hn, hk⟩ := h
    obtain ⟨h1, h3, h4⟩ := node_parts hn
    obtain ⟨r1, r2⟩ := arity_range h1
    have ml := most_le op
    have ih := fun k hk' => fmt_len d k (hk k hk')
    have hp : 1 ≤ 4 ^ d := Nat.pos_of_ne_zero (by simp)
    have hps : 4 ^ (d + 1) = 4 * 4 ^ d := by rw [Nat.pow_succ]; omega
    have har := arity_le op
    rw [hps]
    unfold fmtG
    by_cases e1 : op = 1
    · rw [if_pos e1]
      split
      · simp only [List.length_cons, List.length_nil]; omega
      · simp only [List.length_cons, List.length_nil]; omega
    rw [if_neg e1]
    by_cases e2 : op = 2
    · rw [if_pos e2]
      obtain ⟨-, a, b⟩ := h4 (by omega)
      have := itoa_len 4 n a (by omega)
      omega
    rw [if_neg e2]
    by_cases e3 : op = 3
    · rw [if_pos e3]
      have hnm := (h3 e3).2
      unfold nameB plainB at hnm
      cases nm with
      | nil => simp
      | cons c r =>
        simp only [Bool.and_eq_true, decide_eq_true_eq] at hnm
        have := hnm.1.1.1
        simp only [List.length_cons]
        omega
    rw [if_neg e3]
    by_cases e4 : op = 4
    · rw [if_pos e4]
      have hl : ks.length = 1 := by rw [e4] at h1; have : arityP 4 = 1 := by decide
                                    omega
      have := ih (kid ks 0) (kid_mem (by omega))
      simp only [List.length_append, List.length_cons, List.length_nil]
      omega
    rw [if_neg e4]
    have hwl := word_len (op := op) (by omega) r2
    by_cases e5 : infixB op = true
    · rw [if_pos e5]
      have e5' : 5 ≤ op ∧ op ≤ 12 := by unfold infixB at e5; simpa using e5
      have hl : ks.length = 2 := by
        have : arityP op = 2 := by
          unfold arityP
          rw [if_neg (by omega), if_neg (by omega), if_neg (by omega), if_pos (by omega)]
        omega
      have := ih (kid ks 0) (kid_mem (by omega))
      have := ih (kid ks 1) (kid_mem (by omega))
      simp only [List.length_append, List.length_cons, List.length_nil]
      omega
    rw [if_neg e5]
    obtain ⟨-, n0, n1⟩ := h4 e3
    have hil := itoa_len 4 n n0 (by omega)
    have hcl := commaL_len (M := 40 * 4 ^ d) (ks.map (fmtG d)) (fun x hx => by
      obtain ⟨k, hk1, rfl⟩ := List.mem_map.1 hx
      exact ih k hk1)
    rw [List.length_map] at hcl
    have hk3 : ks.length ≤ 3 := by omega
    have hmul : ks.length * (40 * 4 ^ d + 2) ≤ 3 * (40 * 4 ^ d + 2) := Nat.mul_le_mul_right _ hk3
    have hti : (if timedB op then [44, 32] ++ Lib.itoa n else []).length ≤ 7 := by
      split
      · simp only [List.length_append, List.length_cons, List.length_nil]; omega
      · simp
    simp only [List.length_append, List.length_cons, List.length_nil]
    omega
theorem fmt_all : ∀ d, FmtOk d
  | 0 => fun _ _ _ _ _ _ _ _ _ _ _ h => h.elim
  | d + 1 => fun op n nm A c ks w B K bb l hok hc hm hr hb h5 hw hlen => by
    obtain ⟨hn, hk⟩ := hok
    obtain ⟨h1, h3, h4⟩ := node_parts hn
    obtain ⟨r1, r2⟩ := arity_range h1
    have ml := most_le op
    have har := arity_le op
    by_cases e1 : op = 1
    · subst e1
      exact fmt_bool n nm A c ks w B K bb l hb hlen
    by_cases e2 : op = 2
    · subst e2
      obtain ⟨-, a, b⟩ := h4 (by omega)
      exact fmt_num n nm A c ks w B K bb l hb hw ⟨a, by omega⟩ hlen
    by_cases e3 : op = 3
    · subst e3
      exact fmt_name n nm A c ks w B K bb l hb hlen
    obtain ⟨rfl, n0, n1⟩ := h4 e3
    by_cases e4 : op = 4
    · subst e4
      have hm0 : mostP 4 = 0 := by decide
      obtain rfl : n = 0 := by omega
      have hl : ks.length = 1 := by have : arityP 4 = 1 := by decide
                                    omega
      have hks := kids_one hl
      have hmem : kid ks 0 ∈ ks := kid_mem (by omega)
      have e : fmtG (d + 1) (.mk 4 0 [] ks) = [40, 110, 111, 116, 32] ++ fmtG d (kid ks 0) ++ [41] := rfl
      rw [e] at hlen ⊢
      rw [hl]
      generalize kid ks 0 = x at *
      subst hks
      exact fmt_not (fmt_all d) A c x w B K bb l (hk x hmem) hr hb h5 hw hlen
    by_cases e5 : infixB op = true
    · have e5' : 5 ≤ op ∧ op ≤ 12 := by unfold infixB at e5; simpa using e5
      have hm0 : mostP op = 0 := by unfold mostP; rw [if_neg (by omega), if_neg (by omega), if_neg (by omega)]
      obtain rfl : n = 0 := by omega
      have hl : ks.length = 2 := by
        have : arityP op = 2 := by
          unfold arityP
          rw [if_neg (by omega), if_neg (by omega), if_neg (by omega), if_pos (by omega)]
        omega
      have hks := kids_two hl
      have hm1 : kid ks 0 ∈ ks := kid_mem (by omega)
      have hm2 : kid ks 1 ∈ ks := kid_mem (by omega)
      have e : fmtG (d + 1) (.mk op 0 [] ks) = [40] ++ fmtG d (kid ks 0) ++ ([32] ++ wordP op ++ [32]) ++ fmtG d (kid ks 1) ++ [41] := by
        rw [fmtG, if_neg e1, if_neg e2, if_neg e3, if_neg e4, if_pos e5]
      rw [e] at hlen ⊢
      rw [hl]
      generalize kid ks 0 = x at *
      generalize kid ks 1 = z at *
      subst hks
      exact fmt_infix (fmt_all d) op A c x z w B K bb l e5' (hk x hm1) (hk z hm2) hr hb h5 hw hlen
    · have e6 : 13 ≤ op := by
        unfold infixB at e5
        simp only [decide_eq_true_eq] at e5
        omega
      have e : fmtG (d + 1) (.mk op n [] ks) = wordP op ++ [40] ++ commaL (ks.map (fmtG d)) ++ (if timedB op then [44, 32] ++ Lib.itoa n else []) ++ [41] := by
        rw [fmtG, if_neg e1, if_neg e2, if_neg e3, if_neg e4, if_neg e5]
      rw [e] at hlen ⊢
      exact fmt_call (fmt_all d) op n A c ks w B K bb l ⟨e6, r2⟩ ⟨n0, by omega⟩ hk (by omega) hr hb h5 hw hlen

set_option maxRecDepth 100000 in
set_option maxHeartbeats 4000000 in
theorem Format_any (op n : Int) (nm : List UInt8) (A : Option Addr) (c : Nat) (ks : List Ex) (w : World) (hc : ks.length ≤ c) (hm : c ≤ maxLen) (hp : ExP op n nm) (hr : Rw ExV 4 w (fun b => b < w.heap.size) A ks.length ks) (hw : Lw w) :
    Calls Tryz.prog 13 #[exV op n nm A ks.length c] w (RetStr (fmtP (.mk op n nm ks)) w) := by
  have hbx := box_below w (Obj.cells #[.int .i64 op, .int .i64 n, .string ⟨nm.toArray⟩, .slice A ks.length c] 25)
  have C1 := Valid_any op n nm A c ks (w.alloc (Obj.cells #[.int .i64 op, .int .i64 n, .string ⟨nm.toArray⟩, .slice A ks.length c] 25)) hc hm hp (hr.mono ExV.mono (fun b hb => by simp only [World.size_alloc]; omega) (keepOn_below hbx fun b hb => hb))
  have HX := Lib.hid (XV.new w op n nm A ks.length c)
  have h5 := hw.lt
  have HW := Lib.hid hw
  have HR := Lib.hid hr
  clear hr hw hp
  have hfp : fmtP (.mk op n nm ks) = if validP (.mk op n nm ks) then fmtG 16 (.mk op n nm ks) else [] := rfl
  have HFP := Lib.hid hfp
  have hvo := fun h => valid_ok (x := .mk op n nm ks) h
  have HVO := Lib.hid hvo
  clear hfp hvo
  unfold exV at C1 ⊢
  cases hv : validP (.mk op n nm ks) with
  | false =>
    rw [hv] at C1
    have HC1 := Lib.hid C1
    have HE := Lib.hid (show fmtP (.mk op n nm ks) = [] by rw [HFP.out, hv]; rfl)
    clear C1 hv
    generalize fmtP (.mk op n nm ks) = res at *
    go_enter Tryz.func13, Tryz.ntmps13
    go_wp2_with fail
    refine HC1.out.mono ?_
    rintro e w1 ⟨rfl, hb1⟩
    go_wp2
    go_ret
    exact ⟨ret_str (by rw [HE.out]), below_two hbx hb1 hbx.size⟩
  | true =>
    rw [hv] at C1
    have HC1 := Lib.hid C1
    have HE := Lib.hid (show fmtP (.mk op n nm ks) = fmtG 16 (.mk op n nm ks) by rw [HFP.out, hv]; rfl)
    have HOK := Lib.hid (HVO.out hv)
    have hln := fmt_len 16 (.mk op n nm ks) HOK.out
    have HLN := Lib.hid hln
    clear C1 hv hln
    generalize fmtP (.mk op n nm ks) = res at *
    go_enter Tryz.func13, Tryz.ntmps13
    go_wp2_with fail
    refine HC1.out.mono ?_
    rintro e w1 ⟨rfl, hb1⟩
    have hs1 := hb1.size
    simp only [World.size_alloc] at hs1
    have hbw := below_two hbx hb1 hbx.size
    have hbb := box_below w1 (Obj.cells #[.pointer Option.none, .slice Option.none 0 0] 74)
    have hBK : BK w1.heap.size (fun b => b < w1.heap.size) w1.heap.size [] (w1.alloc (Obj.cells #[.pointer Option.none, .slice Option.none 0 0] 74)) :=
      ⟨Lib.fresh_isBuilder 74 5 w1, fun b hb => ⟨by rw [World.size_alloc]; omega, by omega, .inl hb⟩, by rw [World.size_alloc]; omega⟩
    have X1 := (HX.out.grown (grown_of_below (row := Option.none) hb1) (by simp)).grown (grown_of_below (row := Option.none) hbb) (by simp)
    obtain ⟨x0, x1, x2, x3, -, -, -, -⟩ := (HX.out.grown (grown_of_below (row := Option.none) hb1) (by simp)).cells
    have C2 := fmt_all 16 op n nm A c ks _ _ _ _ [] HOK.out hc hm (HR.out.mono ExV.mono (fun b hb => (by omega : b < w1.heap.size)) ((keepOn_below hbw fun b hb => hb).trans (keepOn_below hbb fun b hb => by omega))) hBK (fun b hb => (by omega : b < w1.heap.size)) ((HW.out.below hbw).below hbb) (by
      have := HLN.out
      simp only [List.length_nil]
      have e : 40 * 4 ^ 16 = 171798691840 := by decide
      omega)
    rw [← HE.out, List.nil_append] at C2
    unfold exV at C2
    have HC2 := Lib.hid C2
    have HBW := Lib.hid (below_two hbw hbb hbw.size)
    have hlw : w.heap.size < w1.heap.size := by omega
    clear C2 X1 hBK hbb hb1 hbw HC1
    go_wp2_with fail
    refine HC2.out.mono ?_
    rintro e w2 ⟨rfl, hbk, hkp⟩
    have C3 := Tryz.Builder_String_any w1.heap.size w1.heap.size _ w2 hbk.bd hbk.bw
    have HC3 := Lib.hid C3
    have HB2 := Lib.hid (HBW.out.trans (hkp.below.mono (by omega)))
    clear C3 hbk hkp HC2
    go_wp2_with fail
    refine HC3.out.mono ?_
    rintro e w3 ⟨rfl, hb3⟩
    go_wp2
    go_ret
    exact ⟨rfl, HB2.out.trans (hb3.mono (by omega))⟩
end Go.Proofs.YtmbmngnnfkdngaaGreatDoor
