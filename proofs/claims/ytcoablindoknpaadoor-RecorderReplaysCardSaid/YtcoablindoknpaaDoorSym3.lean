/-
  symMergeCmpFunc, the general case, by induction on the length; and the whole.
-/
import Derived.Test.YtcoablindoknpaaDoorSym
namespace Go.Proofs.YtcoablindoknpaaDoor
open Go.RowKit

theorem rot_triv {es : List Ev} {s m en : Nat} (h1 : s ≤ m) (h2 : m ≤ en) (h : s = m ∨ en = m) : ∀ p, at_ es p = rotF es s m en p := by
  intro p
  unfold rotF
  rcases h with rfl | rfl
  · by_cases c : s ≤ p ∧ p < s + (en - s)
    · rw [if_pos c, Nat.sub_self, Nat.add_zero]
    · rw [if_neg c]
      by_cases c2 : s + (en - s) ≤ p ∧ p < en
      · omega
      · rw [if_neg c2]
  · rw [if_neg (by omega), Nat.sub_self, Nat.sub_zero, ite_self]

set_option maxRecDepth 100000 in
set_option maxHeartbeats 16000000 in
theorem sym3_any (w : World) (B b cp N : Nat) (es : List Ev) (a m c : Nat) (W : World) (hN : c - a ≤ N + 1) (hes : es.length ≤ 100000) (h1 : a < m) (h2 : m < c) (h3 : c ≤ es.length) (hs1 : SortedR es a m) (hs2 : SortedR es m c) (hS : SSt w B b es W) (c1 : ¬ m - a = 1) (c2 : ¬ c - m = 1)
    (ih : ∀ (cur : List Ev) (a m c : Nat) (W : World), c - a ≤ N → cur.length ≤ 100000 → a < m → m < c → c ≤ cur.length → SortedR cur a m → SortedR cur m c → SSt w B b cur W →
      Calls Tryd.prog 63 #[.slice (some ⟨b, 0, Option.none⟩) cur.length cp, .int .i64 a, .int .i64 m, .int .i64 c, cmpV] W (RetSort w B b cur a c)) :
    Calls Tryd.prog 63 #[.slice (some ⟨b, 0, Option.none⟩) es.length cp, .int .i64 a, .int .i64 m, .int .i64 c, cmpV] W (RetSort w B b es a c) := by
  have CI : ∀ (cur : List Ev), cur.length = es.length → ∀ (a' m' c' : Nat) (x y z : Int), x = (a' : Int) → y = (m' : Int) → z = (c' : Int) → c' - a' ≤ N → a' < m' → m' < c' → c' ≤ es.length → SortedR cur a' m' → SortedR cur m' c' → ∀ W', SSt w B b cur W' →
      Calls Tryd.prog 63 #[.slice (some ⟨b, 0, Option.none⟩) es.length cp, .int .i64 x, .int .i64 y, .int .i64 z, cmpV] W' (RetSort w B b cur a' c') := by
    intro cur hc a' m' c' x y z hx hy hz g0 g1 g2 g3 q1 q2 W' hS'
    subst hx hy hz
    have := ih cur a' m' c' W' g0 (by omega) g1 g2 (by omega) q1 q2 hS'
    rw [hc] at this
    exact this
  have CT : ∀ (a' m' c' : Nat) (x y z : Int), x = (a' : Int) → y = (m' : Int) → z = (c' : Int) → a' < m' → m' < c' → c' ≤ es.length → ∀ W', SSt w B b es W' →
      Calls Tryd.prog 69 #[.slice (some ⟨b, 0, Option.none⟩) es.length cp, .int .i64 x, .int .i64 y, .int .i64 z, cmpV] W' (RetRot w B b es a' m' c') := by
    intro a' m' c' x y z hx hy hz g1 g2 g3 W' hS'
    subst hx hy hz
    exact rotate_any w B b cp es hes a' m' c' g1 g2 g3 W' hS'
  unfold cmpV at *
  have HS1 := Lib.hid hs1
  have HSb := Lib.hid hs2
  have HIH := Lib.hid CI
  have HROT := Lib.hid CT
  clear hs1 hs2 ih CI CT
  have e1 : (((m : Int) - (a : Int)) == 1) = false := by rw [beq_eq_false_iff_ne]; omega
  have e2 : (((c : Int) - (m : Int)) == 1) = false := by rw [beq_eq_false_iff_ne]; omega
  obtain ⟨mid, hmid, hm1, hm2⟩ : ∃ mid : Nat, ((a : Int) + (c : Int)) / 2 = (mid : Int) ∧ a + c ≤ 2 * mid + 1 ∧ 2 * mid ≤ a + c := ⟨(a + c) / 2, by omega, by omega, by omega⟩
  have HMID := Lib.hid hmid
  clear hmid
  go_enter Tryd.func63, Tryd.ntmps63
  go_upto_region 27 with fail
  rw [HMID.out]
  by_cases cm : mid < m
  · have dm : (mid : Int) < (m : Int) := by omega
    have HF0 : Find3 es (mid + m) (mid + m - c) (mid) (mid + m - c) (mid) := ⟨Nat.le_refl _, Nat.le_refl _, by omega, (fun p h1 h2 => by omega), fun p h1 h2 => by omega⟩
    have HF0h := Lib.hid HF0
    clear HF0
    go_wp2
    go_loopw [20, 21] (F3R w B b es (mid + m) (mid + m - c) (mid)) (fun x y _ => (intOf y).toNat - (intOf x).toNat)
    case atStart => exact ⟨mid + m - c, mid, by first | rfl | (congr 1; omega), rfl, HF0h.out, hS⟩
    case round =>
      obtain ⟨i, j, rfl, rfl, hF, hSt⟩ := hrel
      clear hS HF0h
      have g1 := hF.lo
      have g2 := hF.hi
      have g3 := hF.le
      have HF := Lib.hid hF
      clear hF
      by_cases hij : i < j
      · have d1 : (i : Int) < (j : Int) := by omega
        go_upto_region 35 with fail
        obtain ⟨h, hh, hh1, hh2⟩ : ∃ h : Nat, ((i : Int) + (j : Int)) / 2 = (h : Int) ∧ i ≤ h ∧ h < j := ⟨(i + j) / 2, by omega, by omega, by omega⟩
        rw [hh]
        clear hh
        have k0 : (h : Int) < (es.length : Int) := by omega
        have n1 : ((mid : Int) + (m : Int) - 1 - (h : Int)).toNat = mid + m - 1 - h := by omega
        have n2 : IntKind.i64.wrap ((mid : Int) + (m : Int) - 1 - (h : Int)) = (mid : Int) + (m : Int) - 1 - (h : Int) := IntWalk.i64_in _ (by omega)
        have n3 : (0 : Int) ≤ (mid : Int) + (m : Int) - 1 - (h : Int) := by omega
        have n5 : (mid : Int) + (m : Int) - 1 - (h : Int) < (es.length : Int) := by omega
        have n6 : (h : Int) ≤ (mid : Int) + (m : Int) - 1 := by omega
        have n7 : (1 : Int) ≤ (mid : Int) + (m : Int) := by omega
        have N1 := Lib.hid n1
        have N2 := Lib.hid n2
        clear n1 n2
        obtain ⟨x, hx, EX⟩ := hSt.row.at_ (show mid + m - 1 - h < es.length by omega)
        obtain ⟨y, hy, EY⟩ := hSt.row.at_ (show h < es.length by omega)
        have CB := fun W => order_any x y W
        unfold Ev.cells at CB
        have hd1 : ordE x y < 0 → beforeB (at_ es (mid + m - 1 - h)) (at_ es (h)) = true := fun h => by rw [at_eq hx, at_eq hy]; exact decide_eq_true h
        have hd2 : ¬ ordE x y < 0 → beforeB (at_ es (mid + m - 1 - h)) (at_ es (h)) = false := fun h => by rw [at_eq hx, at_eq hy]; exact decide_eq_false h
        generalize ordE x y = oo at *
        have HCB := Lib.hid CB
        have HD1 := Lib.hid hd1
        have HD2 := Lib.hid hd2
        obtain ⟨q0, q1, q2, q3, q4⟩ := id EX
        obtain ⟨r0, r1, r2, r3, r4⟩ := id EY
        have hlW := hSt.row.lt
        clear hx hy CB hd1 hd2
        have n1 := N1.out
        have n2 := N2.out
        go_region_held3 (fun w' => (w'.cell? ⟨b, (mid + m - 1 - h) * 5, Option.none⟩ = some (.int .i64 x.time) ∧ w'.cell? ⟨b, (mid + m - 1 - h) * 5 + 1, Option.none⟩ = some (.int .i64 x.device) ∧ w'.cell? ⟨b, (mid + m - 1 - h) * 5 + 2, Option.none⟩ = some (.int .i64 x.signal) ∧ w'.cell? ⟨b, (mid + m - 1 - h) * 5 + 3, Option.none⟩ = some (.bool x.value) ∧ w'.cell? ⟨b, (mid + m - 1 - h) * 5 + 4, Option.none⟩ = some (.int .i64 x.quality)) ∧
            w'.cell? ⟨b, h * 5, Option.none⟩ = some (.int .i64 y.time) ∧ w'.cell? ⟨b, h * 5 + 1, Option.none⟩ = some (.int .i64 y.device) ∧ w'.cell? ⟨b, h * 5 + 2, Option.none⟩ = some (.int .i64 y.signal) ∧ w'.cell? ⟨b, h * 5 + 3, Option.none⟩ = some (.bool y.value) ∧ w'.cell? ⟨b, h * 5 + 4, Option.none⟩ = some (.int .i64 y.quality)) (go_keep)
          (first
            | ((go_at_call 37; refine (HCB.out _).mono ?_; rintro e' w6 ⟨rfl, hb6'⟩; have hb6 := below_same (a := wr) (B' := wr.heap.size) hb6' rfl rfl rfl rfl (Nat.le_refl _); obtain ⟨t0, t1, t2, t3, t4⟩ := EX.below hb6 hlW; obtain ⟨v0, v1, v2, v3, v4⟩ := EY.below hb6 hlW)))
        have hS6 := hSt.below hb6
        clear t0 t1 t2 t3 t4 v0 v1 v2 v3 v4 q0 q1 q2 q3 q4 r0 r1 r2 r3 r4 EX EY hSt hb6' hb6 HCB
        clear n1 n2
        by_cases hoo : oo < 0
        · have HN := Lib.hid (find3_yes (a := a) (m := m) (b := c) HF.out HS1.out HSb.out (by omega) (by omega) (by omega) (by omega) hh1 hh2 (HD1.out hoo))
          have dd : (!decide (oo < 0)) = false := by rw [decide_eq_true hoo]; rfl
          rw [dd]
          clear HD1 HD2
          go_wp2
          go_roundw
          case rel => exact ⟨i, h, rfl, rfl, HN.out, hS6⟩
          case measure => simp [intOf]; omega
        · have HN := Lib.hid (find3_no (a := a) (m := m) (b := c) HF.out HS1.out HSb.out (by omega) (by omega) (by omega) (by omega) hh1 hh2 (HD2.out (by omega)))
          have dd : (!decide (oo < 0)) = true := by rw [decide_eq_false hoo]; rfl
          rw [dd]
          clear HD1 HD2
          go_wp2
          go_roundw
          case rel => exact ⟨h + 1, j, by go_num, rfl, HN.out, hS6⟩
          case measure => simp [intOf]; omega
      · obtain rfl : i = j := by omega
        obtain ⟨s, hs⟩ : ∃ s, i = s := ⟨_, rfl⟩
        subst hs
        obtain ⟨en, hen⟩ : ∃ en, mid + m - i = en := ⟨_, rfl⟩
        have HHV := Lib.hid (fun es1 hl hat => halves (es1 := es1) (a := a) (b := c) HF.out HS1.out HSb.out rfl hen.symm h1 h2 (by omega) (by omega) h3 (by omega) hl hat)
        have hsm : i ≤ m := by omega
        have hme : m ≤ en := by omega
        have hec : en ≤ c := by omega
        clear HF hij
        have d1 : ¬ (i : Int) < (i : Int) := by omega
        by_cases hrot : i < m ∧ m < en
        · obtain ⟨ha1, ha2⟩ := hrot
          have d1 : (i : Int) < (m : Int) := by omega
          have d2 : (m : Int) < (mid : Int) + (m : Int) - (i : Int) := by omega
          have CT := HROT.out i m en i m ((mid : Int) + (m : Int) - (i : Int)) rfl rfl (by omega) ha1 ha2 (by omega) wr hSt
          have HCT := Lib.hid CT
          clear CT
          go_wp2_with fail
          refine HCT.out.mono ?_
          rintro e w2 ⟨⟨v2, rfl⟩, es1, hl1, hat1, hS1⟩
          have HH := Lib.hid (HHV.out es1 hl1 hat1)
          have HL1 := Lib.hid hl1
          clear hat1 hl1 hSt
          by_cases hle : a < i ∧ i < mid
          · obtain ⟨la, lb⟩ := hle
            have d3 : (a : Int) < (i : Int) := by omega
            have d4 : (i : Int) < (mid : Int) := by omega
            have CL := HIH.out es1 HL1.out a i mid a i mid rfl rfl rfl (by omega) la lb (by omega) HH.out.l1 HH.out.l2 w2 hS1
            have HCL := Lib.hid CL
            clear CL
            go_wp2_with fail
            refine HCL.out.mono ?_
            rintro e w3 ⟨⟨v3, rfl⟩, es2, hg2, hs2, hS2⟩
            have HL2 := Lib.hid (hg2.len.trans HL1.out)
            have HG2 := Lib.hid hg2
            have HS2 := Lib.hid hs2
            clear hg2 hs2
            by_cases hri : mid < en ∧ en < c
            · obtain ⟨ra, rb⟩ := hri
              have d5 : (mid : Int) < (mid : Int) + (m : Int) - (i : Int) := by omega
              have d6 : (mid : Int) + (m : Int) - (i : Int) < (c : Int) := by omega
              have CR := HIH.out es2 HL2.out mid en c mid ((mid : Int) + (m : Int) - (i : Int)) c rfl (by omega) rfl (by omega) (by omega) rb (by omega) (HG2.out.sorted_out HH.out.r1 (.inr (Nat.le_refl _))) (HG2.out.sorted_out HH.out.r2 (.inr (by omega))) w3 hS2
              have HCR := Lib.hid CR
              clear CR
              go_wp2_with fail
              refine HCR.out.mono ?_
              rintro e w4 ⟨⟨v4, rfl⟩, es3, hg3, hs3, hS3⟩
              have HFIN := Lib.hid (halves_done HH.out HG2.out HS2.out hg3 hs3 (by omega) (by omega) h3)
              clear hg3 hs3
              go_wp2
              go_end0
              exact ⟨⟨_, rfl⟩, es3, HFIN.out.1, HFIN.out.2, hS3⟩
            · have hs3 : SortedR es2 mid c := by
                by_cases e : mid < en
                · have he : en = c := by omega
                  have := HG2.out.sorted_out HH.out.r1 (.inr (Nat.le_refl _))
                  rw [he] at this
                  exact this
                · have he : en = mid := by omega
                  have := HG2.out.sorted_out HH.out.r2 (.inr (by omega))
                  rw [he] at this
                  exact this
              have HFIN := Lib.hid (halves_done HH.out HG2.out HS2.out (Seg.refl _ _ _) hs3 (by omega) (by omega) h3)
              clear hs3
              by_cases e : mid < en
              · have d5 : (mid : Int) < (mid : Int) + (m : Int) - (i : Int) := by omega
                have d6 : ¬ (mid : Int) + (m : Int) - (i : Int) < (c : Int) := by omega
                clear hri
                go_wp2
                all_goals (go_end0; exact ⟨⟨_, rfl⟩, _, HFIN.out.1, HFIN.out.2, hS2⟩)
              · have d5 : ¬ (mid : Int) < (mid : Int) + (m : Int) - (i : Int) := by omega
                clear hri
                go_wp2
                all_goals (go_end0; exact ⟨⟨_, rfl⟩, _, HFIN.out.1, HFIN.out.2, hS2⟩)
          · have hs2 : SortedR es1 a mid := by
              by_cases e : a < i
              · have he : i = mid := by omega
                have := HH.out.l1
                rw [he] at this
                exact this
              · have he : i = a := by omega
                have := HH.out.l2
                rw [he] at this
                exact this
            have HG2 := Lib.hid (Seg.refl es1 a mid)
            have HS2 := Lib.hid hs2
            have hS2 := hS1
            clear hs2
            by_cases e : a < i
            · have d3 : (a : Int) < (i : Int) := by omega
              have d4 : ¬ (i : Int) < (mid : Int) := by omega
              clear hle
              exfalso
              omega
            · have d3 : ¬ (a : Int) < (i : Int) := by omega
              clear hle
              by_cases hri : mid < en ∧ en < c
              · obtain ⟨ra, rb⟩ := hri
                have d5 : (mid : Int) < (mid : Int) + (m : Int) - (i : Int) := by omega
                have d6 : (mid : Int) + (m : Int) - (i : Int) < (c : Int) := by omega
                have CR := HIH.out es1 HL1.out mid en c mid ((mid : Int) + (m : Int) - (i : Int)) c rfl (by omega) rfl (by omega) (by omega) rb (by omega) (HG2.out.sorted_out HH.out.r1 (.inr (Nat.le_refl _))) (HG2.out.sorted_out HH.out.r2 (.inr (by omega))) w2 hS2
                have HCR := Lib.hid CR
                clear CR
                go_wp2_with fail
                refine HCR.out.mono ?_
                rintro e w4 ⟨⟨v4, rfl⟩, es3, hg3, hs3, hS3⟩
                have HFIN := Lib.hid (halves_done HH.out HG2.out HS2.out hg3 hs3 (by omega) (by omega) h3)
                clear hg3 hs3
                go_wp2
                go_end0
                exact ⟨⟨_, rfl⟩, es3, HFIN.out.1, HFIN.out.2, hS3⟩
              · have hs3 : SortedR es1 mid c := by
                  by_cases e : mid < en
                  · have he : en = c := by omega
                    have := HG2.out.sorted_out HH.out.r1 (.inr (Nat.le_refl _))
                    rw [he] at this
                    exact this
                  · have he : en = mid := by omega
                    have := HG2.out.sorted_out HH.out.r2 (.inr (by omega))
                    rw [he] at this
                    exact this
                have HFIN := Lib.hid (halves_done HH.out HG2.out HS2.out (Seg.refl _ _ _) hs3 (by omega) (by omega) h3)
                clear hs3
                by_cases e : mid < en
                · have d5 : (mid : Int) < (mid : Int) + (m : Int) - (i : Int) := by omega
                  have d6 : ¬ (mid : Int) + (m : Int) - (i : Int) < (c : Int) := by omega
                  clear hri
                  go_wp2
                  all_goals (go_end0; exact ⟨⟨_, rfl⟩, _, HFIN.out.1, HFIN.out.2, hS2⟩)
                · have d5 : ¬ (mid : Int) < (mid : Int) + (m : Int) - (i : Int) := by omega
                  clear hri
                  go_wp2
                  all_goals (go_end0; exact ⟨⟨_, rfl⟩, _, HFIN.out.1, HFIN.out.2, hS2⟩)
        · have HH := Lib.hid (HHV.out es rfl (rot_triv hsm hme (by omega)))
          have hS1 := hSt
          clear hSt
          by_cases ha1 : i < m
          · have d1 : (i : Int) < (m : Int) := by omega
            have d2 : ¬ (m : Int) < (mid : Int) + (m : Int) - (i : Int) := by omega
            clear hrot
            by_cases hle : a < i ∧ i < mid
            · obtain ⟨la, lb⟩ := hle
              have d3 : (a : Int) < (i : Int) := by omega
              have d4 : (i : Int) < (mid : Int) := by omega
              have CL := HIH.out es rfl a i mid a i mid rfl rfl rfl (by omega) la lb (by omega) HH.out.l1 HH.out.l2 wr hS1
              have HCL := Lib.hid CL
              clear CL
              go_wp2_with fail
              refine HCL.out.mono ?_
              rintro e w3 ⟨⟨v3, rfl⟩, es2, hg2, hs2, hS2⟩
              have HL2 := Lib.hid (hg2.len.trans rfl)
              have HG2 := Lib.hid hg2
              have HS2 := Lib.hid hs2
              clear hg2 hs2
              by_cases hri : mid < en ∧ en < c
              · obtain ⟨ra, rb⟩ := hri
                have d5 : (mid : Int) < (mid : Int) + (m : Int) - (i : Int) := by omega
                have d6 : (mid : Int) + (m : Int) - (i : Int) < (c : Int) := by omega
                have CR := HIH.out es2 HL2.out mid en c mid ((mid : Int) + (m : Int) - (i : Int)) c rfl (by omega) rfl (by omega) (by omega) rb (by omega) (HG2.out.sorted_out HH.out.r1 (.inr (Nat.le_refl _))) (HG2.out.sorted_out HH.out.r2 (.inr (by omega))) w3 hS2
                have HCR := Lib.hid CR
                clear CR
                go_wp2_with fail
                refine HCR.out.mono ?_
                rintro e w4 ⟨⟨v4, rfl⟩, es3, hg3, hs3, hS3⟩
                have HFIN := Lib.hid (halves_done HH.out HG2.out HS2.out hg3 hs3 (by omega) (by omega) h3)
                clear hg3 hs3
                go_wp2
                go_end0
                exact ⟨⟨_, rfl⟩, es3, HFIN.out.1, HFIN.out.2, hS3⟩
              · have hs3 : SortedR es2 mid c := by
                  by_cases e : mid < en
                  · have he : en = c := by omega
                    have := HG2.out.sorted_out HH.out.r1 (.inr (Nat.le_refl _))
                    rw [he] at this
                    exact this
                  · have he : en = mid := by omega
                    have := HG2.out.sorted_out HH.out.r2 (.inr (by omega))
                    rw [he] at this
                    exact this
                have HFIN := Lib.hid (halves_done HH.out HG2.out HS2.out (Seg.refl _ _ _) hs3 (by omega) (by omega) h3)
                clear hs3
                by_cases e : mid < en
                · have d5 : (mid : Int) < (mid : Int) + (m : Int) - (i : Int) := by omega
                  have d6 : ¬ (mid : Int) + (m : Int) - (i : Int) < (c : Int) := by omega
                  clear hri
                  go_wp2
                  all_goals (go_end0; exact ⟨⟨_, rfl⟩, _, HFIN.out.1, HFIN.out.2, hS2⟩)
                · have d5 : ¬ (mid : Int) < (mid : Int) + (m : Int) - (i : Int) := by omega
                  clear hri
                  go_wp2
                  all_goals (go_end0; exact ⟨⟨_, rfl⟩, _, HFIN.out.1, HFIN.out.2, hS2⟩)
            · have hs2 : SortedR es a mid := by
                by_cases e : a < i
                · have he : i = mid := by omega
                  have := HH.out.l1
                  rw [he] at this
                  exact this
                · have he : i = a := by omega
                  have := HH.out.l2
                  rw [he] at this
                  exact this
              have HG2 := Lib.hid (Seg.refl es a mid)
              have HS2 := Lib.hid hs2
              have hS2 := hS1
              clear hs2
              by_cases e : a < i
              · have d3 : (a : Int) < (i : Int) := by omega
                have d4 : ¬ (i : Int) < (mid : Int) := by omega
                clear hle
                by_cases hri : mid < en ∧ en < c
                · obtain ⟨ra, rb⟩ := hri
                  have d5 : (mid : Int) < (mid : Int) + (m : Int) - (i : Int) := by omega
                  have d6 : (mid : Int) + (m : Int) - (i : Int) < (c : Int) := by omega
                  have CR := HIH.out es rfl mid en c mid ((mid : Int) + (m : Int) - (i : Int)) c rfl (by omega) rfl (by omega) (by omega) rb (by omega) (HG2.out.sorted_out HH.out.r1 (.inr (Nat.le_refl _))) (HG2.out.sorted_out HH.out.r2 (.inr (by omega))) wr hS2
                  have HCR := Lib.hid CR
                  clear CR
                  go_wp2_with fail
                  refine HCR.out.mono ?_
                  rintro e w4 ⟨⟨v4, rfl⟩, es3, hg3, hs3, hS3⟩
                  have HFIN := Lib.hid (halves_done HH.out HG2.out HS2.out hg3 hs3 (by omega) (by omega) h3)
                  clear hg3 hs3
                  go_wp2
                  go_end0
                  exact ⟨⟨_, rfl⟩, es3, HFIN.out.1, HFIN.out.2, hS3⟩
                · have hs3 : SortedR es mid c := by
                    by_cases e : mid < en
                    · have he : en = c := by omega
                      have := HG2.out.sorted_out HH.out.r1 (.inr (Nat.le_refl _))
                      rw [he] at this
                      exact this
                    · have he : en = mid := by omega
                      have := HG2.out.sorted_out HH.out.r2 (.inr (by omega))
                      rw [he] at this
                      exact this
                  have HFIN := Lib.hid (halves_done HH.out HG2.out HS2.out (Seg.refl _ _ _) hs3 (by omega) (by omega) h3)
                  clear hs3
                  by_cases e : mid < en
                  · have d5 : (mid : Int) < (mid : Int) + (m : Int) - (i : Int) := by omega
                    have d6 : ¬ (mid : Int) + (m : Int) - (i : Int) < (c : Int) := by omega
                    clear hri
                    go_wp2
                    all_goals (go_end0; exact ⟨⟨_, rfl⟩, _, HFIN.out.1, HFIN.out.2, hS2⟩)
                  · have d5 : ¬ (mid : Int) < (mid : Int) + (m : Int) - (i : Int) := by omega
                    clear hri
                    go_wp2
                    all_goals (go_end0; exact ⟨⟨_, rfl⟩, _, HFIN.out.1, HFIN.out.2, hS2⟩)
              · have d3 : ¬ (a : Int) < (i : Int) := by omega
                clear hle
                by_cases hri : mid < en ∧ en < c
                · obtain ⟨ra, rb⟩ := hri
                  have d5 : (mid : Int) < (mid : Int) + (m : Int) - (i : Int) := by omega
                  have d6 : (mid : Int) + (m : Int) - (i : Int) < (c : Int) := by omega
                  have CR := HIH.out es rfl mid en c mid ((mid : Int) + (m : Int) - (i : Int)) c rfl (by omega) rfl (by omega) (by omega) rb (by omega) (HG2.out.sorted_out HH.out.r1 (.inr (Nat.le_refl _))) (HG2.out.sorted_out HH.out.r2 (.inr (by omega))) wr hS2
                  have HCR := Lib.hid CR
                  clear CR
                  go_wp2_with fail
                  refine HCR.out.mono ?_
                  rintro e w4 ⟨⟨v4, rfl⟩, es3, hg3, hs3, hS3⟩
                  have HFIN := Lib.hid (halves_done HH.out HG2.out HS2.out hg3 hs3 (by omega) (by omega) h3)
                  clear hg3 hs3
                  go_wp2
                  go_end0
                  exact ⟨⟨_, rfl⟩, es3, HFIN.out.1, HFIN.out.2, hS3⟩
                · have hs3 : SortedR es mid c := by
                    by_cases e : mid < en
                    · have he : en = c := by omega
                      have := HG2.out.sorted_out HH.out.r1 (.inr (Nat.le_refl _))
                      rw [he] at this
                      exact this
                    · have he : en = mid := by omega
                      have := HG2.out.sorted_out HH.out.r2 (.inr (by omega))
                      rw [he] at this
                      exact this
                  have HFIN := Lib.hid (halves_done HH.out HG2.out HS2.out (Seg.refl _ _ _) hs3 (by omega) (by omega) h3)
                  clear hs3
                  by_cases e : mid < en
                  · have d5 : (mid : Int) < (mid : Int) + (m : Int) - (i : Int) := by omega
                    have d6 : ¬ (mid : Int) + (m : Int) - (i : Int) < (c : Int) := by omega
                    clear hri
                    go_wp2
                    all_goals (go_end0; exact ⟨⟨_, rfl⟩, _, HFIN.out.1, HFIN.out.2, hS2⟩)
                  · have d5 : ¬ (mid : Int) < (mid : Int) + (m : Int) - (i : Int) := by omega
                    clear hri
                    go_wp2
                    all_goals (go_end0; exact ⟨⟨_, rfl⟩, _, HFIN.out.1, HFIN.out.2, hS2⟩)
          · have d1 : ¬ (i : Int) < (m : Int) := by omega
            clear hrot
            by_cases hle : a < i ∧ i < mid
            · obtain ⟨la, lb⟩ := hle
              have d3 : (a : Int) < (i : Int) := by omega
              have d4 : (i : Int) < (mid : Int) := by omega
              have CL := HIH.out es rfl a i mid a i mid rfl rfl rfl (by omega) la lb (by omega) HH.out.l1 HH.out.l2 wr hS1
              have HCL := Lib.hid CL
              clear CL
              go_wp2_with fail
              refine HCL.out.mono ?_
              rintro e w3 ⟨⟨v3, rfl⟩, es2, hg2, hs2, hS2⟩
              have HL2 := Lib.hid (hg2.len.trans rfl)
              have HG2 := Lib.hid hg2
              have HS2 := Lib.hid hs2
              clear hg2 hs2
              by_cases hri : mid < en ∧ en < c
              · obtain ⟨ra, rb⟩ := hri
                have d5 : (mid : Int) < (mid : Int) + (m : Int) - (i : Int) := by omega
                have d6 : (mid : Int) + (m : Int) - (i : Int) < (c : Int) := by omega
                have CR := HIH.out es2 HL2.out mid en c mid ((mid : Int) + (m : Int) - (i : Int)) c rfl (by omega) rfl (by omega) (by omega) rb (by omega) (HG2.out.sorted_out HH.out.r1 (.inr (Nat.le_refl _))) (HG2.out.sorted_out HH.out.r2 (.inr (by omega))) w3 hS2
                have HCR := Lib.hid CR
                clear CR
                go_wp2_with fail
                refine HCR.out.mono ?_
                rintro e w4 ⟨⟨v4, rfl⟩, es3, hg3, hs3, hS3⟩
                have HFIN := Lib.hid (halves_done HH.out HG2.out HS2.out hg3 hs3 (by omega) (by omega) h3)
                clear hg3 hs3
                go_wp2
                go_end0
                exact ⟨⟨_, rfl⟩, es3, HFIN.out.1, HFIN.out.2, hS3⟩
              · have hs3 : SortedR es2 mid c := by
                  by_cases e : mid < en
                  · have he : en = c := by omega
                    have := HG2.out.sorted_out HH.out.r1 (.inr (Nat.le_refl _))
                    rw [he] at this
                    exact this
                  · have he : en = mid := by omega
                    have := HG2.out.sorted_out HH.out.r2 (.inr (by omega))
                    rw [he] at this
                    exact this
                have HFIN := Lib.hid (halves_done HH.out HG2.out HS2.out (Seg.refl _ _ _) hs3 (by omega) (by omega) h3)
                clear hs3
                by_cases e : mid < en
                · have d5 : (mid : Int) < (mid : Int) + (m : Int) - (i : Int) := by omega
                  have d6 : ¬ (mid : Int) + (m : Int) - (i : Int) < (c : Int) := by omega
                  clear hri
                  go_wp2
                  all_goals (go_end0; exact ⟨⟨_, rfl⟩, _, HFIN.out.1, HFIN.out.2, hS2⟩)
                · have d5 : ¬ (mid : Int) < (mid : Int) + (m : Int) - (i : Int) := by omega
                  clear hri
                  go_wp2
                  all_goals (go_end0; exact ⟨⟨_, rfl⟩, _, HFIN.out.1, HFIN.out.2, hS2⟩)
            · have hs2 : SortedR es a mid := by
                by_cases e : a < i
                · have he : i = mid := by omega
                  have := HH.out.l1
                  rw [he] at this
                  exact this
                · have he : i = a := by omega
                  have := HH.out.l2
                  rw [he] at this
                  exact this
              have HG2 := Lib.hid (Seg.refl es a mid)
              have HS2 := Lib.hid hs2
              have hS2 := hS1
              clear hs2
              by_cases e : a < i
              · have d3 : (a : Int) < (i : Int) := by omega
                have d4 : ¬ (i : Int) < (mid : Int) := by omega
                clear hle
                by_cases hri : mid < en ∧ en < c
                · obtain ⟨ra, rb⟩ := hri
                  have d5 : (mid : Int) < (mid : Int) + (m : Int) - (i : Int) := by omega
                  have d6 : (mid : Int) + (m : Int) - (i : Int) < (c : Int) := by omega
                  have CR := HIH.out es rfl mid en c mid ((mid : Int) + (m : Int) - (i : Int)) c rfl (by omega) rfl (by omega) (by omega) rb (by omega) (HG2.out.sorted_out HH.out.r1 (.inr (Nat.le_refl _))) (HG2.out.sorted_out HH.out.r2 (.inr (by omega))) wr hS2
                  have HCR := Lib.hid CR
                  clear CR
                  go_wp2_with fail
                  refine HCR.out.mono ?_
                  rintro e w4 ⟨⟨v4, rfl⟩, es3, hg3, hs3, hS3⟩
                  have HFIN := Lib.hid (halves_done HH.out HG2.out HS2.out hg3 hs3 (by omega) (by omega) h3)
                  clear hg3 hs3
                  go_wp2
                  go_end0
                  exact ⟨⟨_, rfl⟩, es3, HFIN.out.1, HFIN.out.2, hS3⟩
                · have hs3 : SortedR es mid c := by
                    by_cases e : mid < en
                    · have he : en = c := by omega
                      have := HG2.out.sorted_out HH.out.r1 (.inr (Nat.le_refl _))
                      rw [he] at this
                      exact this
                    · have he : en = mid := by omega
                      have := HG2.out.sorted_out HH.out.r2 (.inr (by omega))
                      rw [he] at this
                      exact this
                  have HFIN := Lib.hid (halves_done HH.out HG2.out HS2.out (Seg.refl _ _ _) hs3 (by omega) (by omega) h3)
                  clear hs3
                  by_cases e : mid < en
                  · have d5 : (mid : Int) < (mid : Int) + (m : Int) - (i : Int) := by omega
                    have d6 : ¬ (mid : Int) + (m : Int) - (i : Int) < (c : Int) := by omega
                    clear hri
                    go_wp2
                    all_goals (go_end0; exact ⟨⟨_, rfl⟩, _, HFIN.out.1, HFIN.out.2, hS2⟩)
                  · have d5 : ¬ (mid : Int) < (mid : Int) + (m : Int) - (i : Int) := by omega
                    clear hri
                    go_wp2
                    all_goals (go_end0; exact ⟨⟨_, rfl⟩, _, HFIN.out.1, HFIN.out.2, hS2⟩)
              · have d3 : ¬ (a : Int) < (i : Int) := by omega
                clear hle
                by_cases hri : mid < en ∧ en < c
                · obtain ⟨ra, rb⟩ := hri
                  have d5 : (mid : Int) < (mid : Int) + (m : Int) - (i : Int) := by omega
                  have d6 : (mid : Int) + (m : Int) - (i : Int) < (c : Int) := by omega
                  have CR := HIH.out es rfl mid en c mid ((mid : Int) + (m : Int) - (i : Int)) c rfl (by omega) rfl (by omega) (by omega) rb (by omega) (HG2.out.sorted_out HH.out.r1 (.inr (Nat.le_refl _))) (HG2.out.sorted_out HH.out.r2 (.inr (by omega))) wr hS2
                  have HCR := Lib.hid CR
                  clear CR
                  go_wp2_with fail
                  refine HCR.out.mono ?_
                  rintro e w4 ⟨⟨v4, rfl⟩, es3, hg3, hs3, hS3⟩
                  have HFIN := Lib.hid (halves_done HH.out HG2.out HS2.out hg3 hs3 (by omega) (by omega) h3)
                  clear hg3 hs3
                  go_wp2
                  go_end0
                  exact ⟨⟨_, rfl⟩, es3, HFIN.out.1, HFIN.out.2, hS3⟩
                · have hs3 : SortedR es mid c := by
                    by_cases e : mid < en
                    · have he : en = c := by omega
                      have := HG2.out.sorted_out HH.out.r1 (.inr (Nat.le_refl _))
                      rw [he] at this
                      exact this
                    · have he : en = mid := by omega
                      have := HG2.out.sorted_out HH.out.r2 (.inr (by omega))
                      rw [he] at this
                      exact this
                  have HFIN := Lib.hid (halves_done HH.out HG2.out HS2.out (Seg.refl _ _ _) hs3 (by omega) (by omega) h3)
                  clear hs3
                  by_cases e : mid < en
                  · have d5 : (mid : Int) < (mid : Int) + (m : Int) - (i : Int) := by omega
                    have d6 : ¬ (mid : Int) + (m : Int) - (i : Int) < (c : Int) := by omega
                    clear hri
                    go_wp2
                    all_goals (go_end0; exact ⟨⟨_, rfl⟩, _, HFIN.out.1, HFIN.out.2, hS2⟩)
                  · have d5 : ¬ (mid : Int) < (mid : Int) + (m : Int) - (i : Int) := by omega
                    clear hri
                    go_wp2
                    all_goals (go_end0; exact ⟨⟨_, rfl⟩, _, HFIN.out.1, HFIN.out.2, hS2⟩)
  · have dm : ¬ (mid : Int) < (m : Int) := by omega
    have HF0 : Find3 es (mid + m) (a) (m) (a) (m) := ⟨Nat.le_refl _, Nat.le_refl _, by omega, (fun p h1 h2 => by omega), fun p h1 h2 => by omega⟩
    have HF0h := Lib.hid HF0
    clear HF0
    go_wp2
    go_loopw [20, 21] (F3R w B b es (mid + m) (a) (m)) (fun x y _ => (intOf y).toNat - (intOf x).toNat)
    case atStart => exact ⟨a, m, by first | rfl | (congr 1; omega), rfl, HF0h.out, hS⟩
    case round =>
      obtain ⟨i, j, rfl, rfl, hF, hSt⟩ := hrel
      clear hS HF0h
      have g1 := hF.lo
      have g2 := hF.hi
      have g3 := hF.le
      have HF := Lib.hid hF
      clear hF
      by_cases hij : i < j
      · have d1 : (i : Int) < (j : Int) := by omega
        go_upto_region 35 with fail
        obtain ⟨h, hh, hh1, hh2⟩ : ∃ h : Nat, ((i : Int) + (j : Int)) / 2 = (h : Int) ∧ i ≤ h ∧ h < j := ⟨(i + j) / 2, by omega, by omega, by omega⟩
        rw [hh]
        clear hh
        have k0 : (h : Int) < (es.length : Int) := by omega
        have n1 : ((mid : Int) + (m : Int) - 1 - (h : Int)).toNat = mid + m - 1 - h := by omega
        have n2 : IntKind.i64.wrap ((mid : Int) + (m : Int) - 1 - (h : Int)) = (mid : Int) + (m : Int) - 1 - (h : Int) := IntWalk.i64_in _ (by omega)
        have n3 : (0 : Int) ≤ (mid : Int) + (m : Int) - 1 - (h : Int) := by omega
        have n5 : (mid : Int) + (m : Int) - 1 - (h : Int) < (es.length : Int) := by omega
        have n6 : (h : Int) ≤ (mid : Int) + (m : Int) - 1 := by omega
        have n7 : (1 : Int) ≤ (mid : Int) + (m : Int) := by omega
        have N1 := Lib.hid n1
        have N2 := Lib.hid n2
        clear n1 n2
        obtain ⟨x, hx, EX⟩ := hSt.row.at_ (show mid + m - 1 - h < es.length by omega)
        obtain ⟨y, hy, EY⟩ := hSt.row.at_ (show h < es.length by omega)
        have CB := fun W => order_any x y W
        unfold Ev.cells at CB
        have hd1 : ordE x y < 0 → beforeB (at_ es (mid + m - 1 - h)) (at_ es (h)) = true := fun h => by rw [at_eq hx, at_eq hy]; exact decide_eq_true h
        have hd2 : ¬ ordE x y < 0 → beforeB (at_ es (mid + m - 1 - h)) (at_ es (h)) = false := fun h => by rw [at_eq hx, at_eq hy]; exact decide_eq_false h
        generalize ordE x y = oo at *
        have HCB := Lib.hid CB
        have HD1 := Lib.hid hd1
        have HD2 := Lib.hid hd2
        obtain ⟨q0, q1, q2, q3, q4⟩ := id EX
        obtain ⟨r0, r1, r2, r3, r4⟩ := id EY
        have hlW := hSt.row.lt
        clear hx hy CB hd1 hd2
        have n1 := N1.out
        have n2 := N2.out
        go_region_held3 (fun w' => (w'.cell? ⟨b, (mid + m - 1 - h) * 5, Option.none⟩ = some (.int .i64 x.time) ∧ w'.cell? ⟨b, (mid + m - 1 - h) * 5 + 1, Option.none⟩ = some (.int .i64 x.device) ∧ w'.cell? ⟨b, (mid + m - 1 - h) * 5 + 2, Option.none⟩ = some (.int .i64 x.signal) ∧ w'.cell? ⟨b, (mid + m - 1 - h) * 5 + 3, Option.none⟩ = some (.bool x.value) ∧ w'.cell? ⟨b, (mid + m - 1 - h) * 5 + 4, Option.none⟩ = some (.int .i64 x.quality)) ∧
            w'.cell? ⟨b, h * 5, Option.none⟩ = some (.int .i64 y.time) ∧ w'.cell? ⟨b, h * 5 + 1, Option.none⟩ = some (.int .i64 y.device) ∧ w'.cell? ⟨b, h * 5 + 2, Option.none⟩ = some (.int .i64 y.signal) ∧ w'.cell? ⟨b, h * 5 + 3, Option.none⟩ = some (.bool y.value) ∧ w'.cell? ⟨b, h * 5 + 4, Option.none⟩ = some (.int .i64 y.quality)) (go_keep)
          (first
            | ((go_at_call 37; refine (HCB.out _).mono ?_; rintro e' w6 ⟨rfl, hb6'⟩; have hb6 := below_same (a := wr) (B' := wr.heap.size) hb6' rfl rfl rfl rfl (Nat.le_refl _); obtain ⟨t0, t1, t2, t3, t4⟩ := EX.below hb6 hlW; obtain ⟨v0, v1, v2, v3, v4⟩ := EY.below hb6 hlW)))
        have hS6 := hSt.below hb6
        clear t0 t1 t2 t3 t4 v0 v1 v2 v3 v4 q0 q1 q2 q3 q4 r0 r1 r2 r3 r4 EX EY hSt hb6' hb6 HCB
        clear n1 n2
        by_cases hoo : oo < 0
        · have HN := Lib.hid (find3_yes (a := a) (m := m) (b := c) HF.out HS1.out HSb.out (by omega) (by omega) (by omega) (by omega) hh1 hh2 (HD1.out hoo))
          have dd : (!decide (oo < 0)) = false := by rw [decide_eq_true hoo]; rfl
          rw [dd]
          clear HD1 HD2
          go_wp2
          go_roundw
          case rel => exact ⟨i, h, rfl, rfl, HN.out, hS6⟩
          case measure => simp [intOf]; omega
        · have HN := Lib.hid (find3_no (a := a) (m := m) (b := c) HF.out HS1.out HSb.out (by omega) (by omega) (by omega) (by omega) hh1 hh2 (HD2.out (by omega)))
          have dd : (!decide (oo < 0)) = true := by rw [decide_eq_false hoo]; rfl
          rw [dd]
          clear HD1 HD2
          go_wp2
          go_roundw
          case rel => exact ⟨h + 1, j, by go_num, rfl, HN.out, hS6⟩
          case measure => simp [intOf]; omega
      · obtain rfl : i = j := by omega
        obtain ⟨s, hs⟩ : ∃ s, i = s := ⟨_, rfl⟩
        subst hs
        obtain ⟨en, hen⟩ : ∃ en, mid + m - i = en := ⟨_, rfl⟩
        have HHV := Lib.hid (fun es1 hl hat => halves (es1 := es1) (a := a) (b := c) HF.out HS1.out HSb.out rfl hen.symm h1 h2 (by omega) (by omega) h3 (by omega) hl hat)
        have hsm : i ≤ m := by omega
        have hme : m ≤ en := by omega
        have hec : en ≤ c := by omega
        clear HF hij
        have d1 : ¬ (i : Int) < (i : Int) := by omega
        by_cases hrot : i < m ∧ m < en
        · obtain ⟨ha1, ha2⟩ := hrot
          have d1 : (i : Int) < (m : Int) := by omega
          have d2 : (m : Int) < (mid : Int) + (m : Int) - (i : Int) := by omega
          have CT := HROT.out i m en i m ((mid : Int) + (m : Int) - (i : Int)) rfl rfl (by omega) ha1 ha2 (by omega) wr hSt
          have HCT := Lib.hid CT
          clear CT
          go_wp2_with fail
          refine HCT.out.mono ?_
          rintro e w2 ⟨⟨v2, rfl⟩, es1, hl1, hat1, hS1⟩
          have HH := Lib.hid (HHV.out es1 hl1 hat1)
          have HL1 := Lib.hid hl1
          clear hat1 hl1 hSt
          by_cases hle : a < i ∧ i < mid
          · obtain ⟨la, lb⟩ := hle
            have d3 : (a : Int) < (i : Int) := by omega
            have d4 : (i : Int) < (mid : Int) := by omega
            have CL := HIH.out es1 HL1.out a i mid a i mid rfl rfl rfl (by omega) la lb (by omega) HH.out.l1 HH.out.l2 w2 hS1
            have HCL := Lib.hid CL
            clear CL
            go_wp2_with fail
            refine HCL.out.mono ?_
            rintro e w3 ⟨⟨v3, rfl⟩, es2, hg2, hs2, hS2⟩
            have HL2 := Lib.hid (hg2.len.trans HL1.out)
            have HG2 := Lib.hid hg2
            have HS2 := Lib.hid hs2
            clear hg2 hs2
            by_cases hri : mid < en ∧ en < c
            · obtain ⟨ra, rb⟩ := hri
              have d5 : (mid : Int) < (mid : Int) + (m : Int) - (i : Int) := by omega
              have d6 : (mid : Int) + (m : Int) - (i : Int) < (c : Int) := by omega
              have CR := HIH.out es2 HL2.out mid en c mid ((mid : Int) + (m : Int) - (i : Int)) c rfl (by omega) rfl (by omega) (by omega) rb (by omega) (HG2.out.sorted_out HH.out.r1 (.inr (Nat.le_refl _))) (HG2.out.sorted_out HH.out.r2 (.inr (by omega))) w3 hS2
              have HCR := Lib.hid CR
              clear CR
              go_wp2_with fail
              refine HCR.out.mono ?_
              rintro e w4 ⟨⟨v4, rfl⟩, es3, hg3, hs3, hS3⟩
              have HFIN := Lib.hid (halves_done HH.out HG2.out HS2.out hg3 hs3 (by omega) (by omega) h3)
              clear hg3 hs3
              go_wp2
              go_end0
              exact ⟨⟨_, rfl⟩, es3, HFIN.out.1, HFIN.out.2, hS3⟩
            · have hs3 : SortedR es2 mid c := by
                by_cases e : mid < en
                · have he : en = c := by omega
                  have := HG2.out.sorted_out HH.out.r1 (.inr (Nat.le_refl _))
                  rw [he] at this
                  exact this
                · have he : en = mid := by omega
                  have := HG2.out.sorted_out HH.out.r2 (.inr (by omega))
                  rw [he] at this
                  exact this
              have HFIN := Lib.hid (halves_done HH.out HG2.out HS2.out (Seg.refl _ _ _) hs3 (by omega) (by omega) h3)
              clear hs3
              by_cases e : mid < en
              · have d5 : (mid : Int) < (mid : Int) + (m : Int) - (i : Int) := by omega
                have d6 : ¬ (mid : Int) + (m : Int) - (i : Int) < (c : Int) := by omega
                clear hri
                go_wp2
                all_goals (go_end0; exact ⟨⟨_, rfl⟩, _, HFIN.out.1, HFIN.out.2, hS2⟩)
              · have d5 : ¬ (mid : Int) < (mid : Int) + (m : Int) - (i : Int) := by omega
                clear hri
                go_wp2
                all_goals (go_end0; exact ⟨⟨_, rfl⟩, _, HFIN.out.1, HFIN.out.2, hS2⟩)
          · have hs2 : SortedR es1 a mid := by
              by_cases e : a < i
              · have he : i = mid := by omega
                have := HH.out.l1
                rw [he] at this
                exact this
              · have he : i = a := by omega
                have := HH.out.l2
                rw [he] at this
                exact this
            have HG2 := Lib.hid (Seg.refl es1 a mid)
            have HS2 := Lib.hid hs2
            have hS2 := hS1
            clear hs2
            by_cases e : a < i
            · have d3 : (a : Int) < (i : Int) := by omega
              have d4 : ¬ (i : Int) < (mid : Int) := by omega
              clear hle
              exfalso
              omega
            · have d3 : ¬ (a : Int) < (i : Int) := by omega
              clear hle
              by_cases hri : mid < en ∧ en < c
              · obtain ⟨ra, rb⟩ := hri
                have d5 : (mid : Int) < (mid : Int) + (m : Int) - (i : Int) := by omega
                have d6 : (mid : Int) + (m : Int) - (i : Int) < (c : Int) := by omega
                have CR := HIH.out es1 HL1.out mid en c mid ((mid : Int) + (m : Int) - (i : Int)) c rfl (by omega) rfl (by omega) (by omega) rb (by omega) (HG2.out.sorted_out HH.out.r1 (.inr (Nat.le_refl _))) (HG2.out.sorted_out HH.out.r2 (.inr (by omega))) w2 hS2
                have HCR := Lib.hid CR
                clear CR
                go_wp2_with fail
                refine HCR.out.mono ?_
                rintro e w4 ⟨⟨v4, rfl⟩, es3, hg3, hs3, hS3⟩
                have HFIN := Lib.hid (halves_done HH.out HG2.out HS2.out hg3 hs3 (by omega) (by omega) h3)
                clear hg3 hs3
                go_wp2
                go_end0
                exact ⟨⟨_, rfl⟩, es3, HFIN.out.1, HFIN.out.2, hS3⟩
              · have hs3 : SortedR es1 mid c := by
                  by_cases e : mid < en
                  · have he : en = c := by omega
                    have := HG2.out.sorted_out HH.out.r1 (.inr (Nat.le_refl _))
                    rw [he] at this
                    exact this
                  · have he : en = mid := by omega
                    have := HG2.out.sorted_out HH.out.r2 (.inr (by omega))
                    rw [he] at this
                    exact this
                have HFIN := Lib.hid (halves_done HH.out HG2.out HS2.out (Seg.refl _ _ _) hs3 (by omega) (by omega) h3)
                clear hs3
                by_cases e : mid < en
                · have d5 : (mid : Int) < (mid : Int) + (m : Int) - (i : Int) := by omega
                  have d6 : ¬ (mid : Int) + (m : Int) - (i : Int) < (c : Int) := by omega
                  clear hri
                  go_wp2
                  all_goals (go_end0; exact ⟨⟨_, rfl⟩, _, HFIN.out.1, HFIN.out.2, hS2⟩)
                · have d5 : ¬ (mid : Int) < (mid : Int) + (m : Int) - (i : Int) := by omega
                  clear hri
                  go_wp2
                  all_goals (go_end0; exact ⟨⟨_, rfl⟩, _, HFIN.out.1, HFIN.out.2, hS2⟩)
        · have HH := Lib.hid (HHV.out es rfl (rot_triv hsm hme (by omega)))
          have hS1 := hSt
          clear hSt
          by_cases ha1 : i < m
          · have d1 : (i : Int) < (m : Int) := by omega
            have d2 : ¬ (m : Int) < (mid : Int) + (m : Int) - (i : Int) := by omega
            clear hrot
            by_cases hle : a < i ∧ i < mid
            · obtain ⟨la, lb⟩ := hle
              have d3 : (a : Int) < (i : Int) := by omega
              have d4 : (i : Int) < (mid : Int) := by omega
              have CL := HIH.out es rfl a i mid a i mid rfl rfl rfl (by omega) la lb (by omega) HH.out.l1 HH.out.l2 wr hS1
              have HCL := Lib.hid CL
              clear CL
              go_wp2_with fail
              refine HCL.out.mono ?_
              rintro e w3 ⟨⟨v3, rfl⟩, es2, hg2, hs2, hS2⟩
              have HL2 := Lib.hid (hg2.len.trans rfl)
              have HG2 := Lib.hid hg2
              have HS2 := Lib.hid hs2
              clear hg2 hs2
              by_cases hri : mid < en ∧ en < c
              · obtain ⟨ra, rb⟩ := hri
                have d5 : (mid : Int) < (mid : Int) + (m : Int) - (i : Int) := by omega
                have d6 : (mid : Int) + (m : Int) - (i : Int) < (c : Int) := by omega
                have CR := HIH.out es2 HL2.out mid en c mid ((mid : Int) + (m : Int) - (i : Int)) c rfl (by omega) rfl (by omega) (by omega) rb (by omega) (HG2.out.sorted_out HH.out.r1 (.inr (Nat.le_refl _))) (HG2.out.sorted_out HH.out.r2 (.inr (by omega))) w3 hS2
                have HCR := Lib.hid CR
                clear CR
                go_wp2_with fail
                refine HCR.out.mono ?_
                rintro e w4 ⟨⟨v4, rfl⟩, es3, hg3, hs3, hS3⟩
                have HFIN := Lib.hid (halves_done HH.out HG2.out HS2.out hg3 hs3 (by omega) (by omega) h3)
                clear hg3 hs3
                go_wp2
                go_end0
                exact ⟨⟨_, rfl⟩, es3, HFIN.out.1, HFIN.out.2, hS3⟩
              · have hs3 : SortedR es2 mid c := by
                  by_cases e : mid < en
                  · have he : en = c := by omega
                    have := HG2.out.sorted_out HH.out.r1 (.inr (Nat.le_refl _))
                    rw [he] at this
                    exact this
                  · have he : en = mid := by omega
                    have := HG2.out.sorted_out HH.out.r2 (.inr (by omega))
                    rw [he] at this
                    exact this
                have HFIN := Lib.hid (halves_done HH.out HG2.out HS2.out (Seg.refl _ _ _) hs3 (by omega) (by omega) h3)
                clear hs3
                by_cases e : mid < en
                · have d5 : (mid : Int) < (mid : Int) + (m : Int) - (i : Int) := by omega
                  have d6 : ¬ (mid : Int) + (m : Int) - (i : Int) < (c : Int) := by omega
                  clear hri
                  go_wp2
                  all_goals (go_end0; exact ⟨⟨_, rfl⟩, _, HFIN.out.1, HFIN.out.2, hS2⟩)
                · have d5 : ¬ (mid : Int) < (mid : Int) + (m : Int) - (i : Int) := by omega
                  clear hri
                  go_wp2
                  all_goals (go_end0; exact ⟨⟨_, rfl⟩, _, HFIN.out.1, HFIN.out.2, hS2⟩)
            · have hs2 : SortedR es a mid := by
                by_cases e : a < i
                · have he : i = mid := by omega
                  have := HH.out.l1
                  rw [he] at this
                  exact this
                · have he : i = a := by omega
                  have := HH.out.l2
                  rw [he] at this
                  exact this
              have HG2 := Lib.hid (Seg.refl es a mid)
              have HS2 := Lib.hid hs2
              have hS2 := hS1
              clear hs2
              by_cases e : a < i
              · have d3 : (a : Int) < (i : Int) := by omega
                have d4 : ¬ (i : Int) < (mid : Int) := by omega
                clear hle
                by_cases hri : mid < en ∧ en < c
                · obtain ⟨ra, rb⟩ := hri
                  have d5 : (mid : Int) < (mid : Int) + (m : Int) - (i : Int) := by omega
                  have d6 : (mid : Int) + (m : Int) - (i : Int) < (c : Int) := by omega
                  have CR := HIH.out es rfl mid en c mid ((mid : Int) + (m : Int) - (i : Int)) c rfl (by omega) rfl (by omega) (by omega) rb (by omega) (HG2.out.sorted_out HH.out.r1 (.inr (Nat.le_refl _))) (HG2.out.sorted_out HH.out.r2 (.inr (by omega))) wr hS2
                  have HCR := Lib.hid CR
                  clear CR
                  go_wp2_with fail
                  refine HCR.out.mono ?_
                  rintro e w4 ⟨⟨v4, rfl⟩, es3, hg3, hs3, hS3⟩
                  have HFIN := Lib.hid (halves_done HH.out HG2.out HS2.out hg3 hs3 (by omega) (by omega) h3)
                  clear hg3 hs3
                  go_wp2
                  go_end0
                  exact ⟨⟨_, rfl⟩, es3, HFIN.out.1, HFIN.out.2, hS3⟩
                · have hs3 : SortedR es mid c := by
                    by_cases e : mid < en
                    · have he : en = c := by omega
                      have := HG2.out.sorted_out HH.out.r1 (.inr (Nat.le_refl _))
                      rw [he] at this
                      exact this
                    · have he : en = mid := by omega
                      have := HG2.out.sorted_out HH.out.r2 (.inr (by omega))
                      rw [he] at this
                      exact this
                  have HFIN := Lib.hid (halves_done HH.out HG2.out HS2.out (Seg.refl _ _ _) hs3 (by omega) (by omega) h3)
                  clear hs3
                  by_cases e : mid < en
                  · have d5 : (mid : Int) < (mid : Int) + (m : Int) - (i : Int) := by omega
                    have d6 : ¬ (mid : Int) + (m : Int) - (i : Int) < (c : Int) := by omega
                    clear hri
                    go_wp2
                    all_goals (go_end0; exact ⟨⟨_, rfl⟩, _, HFIN.out.1, HFIN.out.2, hS2⟩)
                  · have d5 : ¬ (mid : Int) < (mid : Int) + (m : Int) - (i : Int) := by omega
                    clear hri
                    go_wp2
                    all_goals (go_end0; exact ⟨⟨_, rfl⟩, _, HFIN.out.1, HFIN.out.2, hS2⟩)
              · have d3 : ¬ (a : Int) < (i : Int) := by omega
                clear hle
                by_cases hri : mid < en ∧ en < c
                · obtain ⟨ra, rb⟩ := hri
                  have d5 : (mid : Int) < (mid : Int) + (m : Int) - (i : Int) := by omega
                  have d6 : (mid : Int) + (m : Int) - (i : Int) < (c : Int) := by omega
                  have CR := HIH.out es rfl mid en c mid ((mid : Int) + (m : Int) - (i : Int)) c rfl (by omega) rfl (by omega) (by omega) rb (by omega) (HG2.out.sorted_out HH.out.r1 (.inr (Nat.le_refl _))) (HG2.out.sorted_out HH.out.r2 (.inr (by omega))) wr hS2
                  have HCR := Lib.hid CR
                  clear CR
                  go_wp2_with fail
                  refine HCR.out.mono ?_
                  rintro e w4 ⟨⟨v4, rfl⟩, es3, hg3, hs3, hS3⟩
                  have HFIN := Lib.hid (halves_done HH.out HG2.out HS2.out hg3 hs3 (by omega) (by omega) h3)
                  clear hg3 hs3
                  go_wp2
                  go_end0
                  exact ⟨⟨_, rfl⟩, es3, HFIN.out.1, HFIN.out.2, hS3⟩
                · have hs3 : SortedR es mid c := by
                    by_cases e : mid < en
                    · have he : en = c := by omega
                      have := HG2.out.sorted_out HH.out.r1 (.inr (Nat.le_refl _))
                      rw [he] at this
                      exact this
                    · have he : en = mid := by omega
                      have := HG2.out.sorted_out HH.out.r2 (.inr (by omega))
                      rw [he] at this
                      exact this
                  have HFIN := Lib.hid (halves_done HH.out HG2.out HS2.out (Seg.refl _ _ _) hs3 (by omega) (by omega) h3)
                  clear hs3
                  by_cases e : mid < en
                  · have d5 : (mid : Int) < (mid : Int) + (m : Int) - (i : Int) := by omega
                    have d6 : ¬ (mid : Int) + (m : Int) - (i : Int) < (c : Int) := by omega
                    clear hri
                    go_wp2
                    all_goals (go_end0; exact ⟨⟨_, rfl⟩, _, HFIN.out.1, HFIN.out.2, hS2⟩)
                  · have d5 : ¬ (mid : Int) < (mid : Int) + (m : Int) - (i : Int) := by omega
                    clear hri
                    go_wp2
                    all_goals (go_end0; exact ⟨⟨_, rfl⟩, _, HFIN.out.1, HFIN.out.2, hS2⟩)
          · have d1 : ¬ (i : Int) < (m : Int) := by omega
            clear hrot
            by_cases hle : a < i ∧ i < mid
            · obtain ⟨la, lb⟩ := hle
              have d3 : (a : Int) < (i : Int) := by omega
              have d4 : (i : Int) < (mid : Int) := by omega
              have CL := HIH.out es rfl a i mid a i mid rfl rfl rfl (by omega) la lb (by omega) HH.out.l1 HH.out.l2 wr hS1
              have HCL := Lib.hid CL
              clear CL
              go_wp2_with fail
              refine HCL.out.mono ?_
              rintro e w3 ⟨⟨v3, rfl⟩, es2, hg2, hs2, hS2⟩
              have HL2 := Lib.hid (hg2.len.trans rfl)
              have HG2 := Lib.hid hg2
              have HS2 := Lib.hid hs2
              clear hg2 hs2
              by_cases hri : mid < en ∧ en < c
              · obtain ⟨ra, rb⟩ := hri
                have d5 : (mid : Int) < (mid : Int) + (m : Int) - (i : Int) := by omega
                have d6 : (mid : Int) + (m : Int) - (i : Int) < (c : Int) := by omega
                have CR := HIH.out es2 HL2.out mid en c mid ((mid : Int) + (m : Int) - (i : Int)) c rfl (by omega) rfl (by omega) (by omega) rb (by omega) (HG2.out.sorted_out HH.out.r1 (.inr (Nat.le_refl _))) (HG2.out.sorted_out HH.out.r2 (.inr (by omega))) w3 hS2
                have HCR := Lib.hid CR
                clear CR
                go_wp2_with fail
                refine HCR.out.mono ?_
                rintro e w4 ⟨⟨v4, rfl⟩, es3, hg3, hs3, hS3⟩
                have HFIN := Lib.hid (halves_done HH.out HG2.out HS2.out hg3 hs3 (by omega) (by omega) h3)
                clear hg3 hs3
                go_wp2
                go_end0
                exact ⟨⟨_, rfl⟩, es3, HFIN.out.1, HFIN.out.2, hS3⟩
              · have hs3 : SortedR es2 mid c := by
                  by_cases e : mid < en
                  · have he : en = c := by omega
                    have := HG2.out.sorted_out HH.out.r1 (.inr (Nat.le_refl _))
                    rw [he] at this
                    exact this
                  · have he : en = mid := by omega
                    have := HG2.out.sorted_out HH.out.r2 (.inr (by omega))
                    rw [he] at this
                    exact this
                have HFIN := Lib.hid (halves_done HH.out HG2.out HS2.out (Seg.refl _ _ _) hs3 (by omega) (by omega) h3)
                clear hs3
                by_cases e : mid < en
                · have d5 : (mid : Int) < (mid : Int) + (m : Int) - (i : Int) := by omega
                  have d6 : ¬ (mid : Int) + (m : Int) - (i : Int) < (c : Int) := by omega
                  clear hri
                  go_wp2
                  all_goals (go_end0; exact ⟨⟨_, rfl⟩, _, HFIN.out.1, HFIN.out.2, hS2⟩)
                · have d5 : ¬ (mid : Int) < (mid : Int) + (m : Int) - (i : Int) := by omega
                  clear hri
                  go_wp2
                  all_goals (go_end0; exact ⟨⟨_, rfl⟩, _, HFIN.out.1, HFIN.out.2, hS2⟩)
            · have hs2 : SortedR es a mid := by
                by_cases e : a < i
                · have he : i = mid := by omega
                  have := HH.out.l1
                  rw [he] at this
                  exact this
                · have he : i = a := by omega
                  have := HH.out.l2
                  rw [he] at this
                  exact this
              have HG2 := Lib.hid (Seg.refl es a mid)
              have HS2 := Lib.hid hs2
              have hS2 := hS1
              clear hs2
              by_cases e : a < i
              · have d3 : (a : Int) < (i : Int) := by omega
                have d4 : ¬ (i : Int) < (mid : Int) := by omega
                clear hle
                by_cases hri : mid < en ∧ en < c
                · obtain ⟨ra, rb⟩ := hri
                  have d5 : (mid : Int) < (mid : Int) + (m : Int) - (i : Int) := by omega
                  have d6 : (mid : Int) + (m : Int) - (i : Int) < (c : Int) := by omega
                  have CR := HIH.out es rfl mid en c mid ((mid : Int) + (m : Int) - (i : Int)) c rfl (by omega) rfl (by omega) (by omega) rb (by omega) (HG2.out.sorted_out HH.out.r1 (.inr (Nat.le_refl _))) (HG2.out.sorted_out HH.out.r2 (.inr (by omega))) wr hS2
                  have HCR := Lib.hid CR
                  clear CR
                  go_wp2_with fail
                  refine HCR.out.mono ?_
                  rintro e w4 ⟨⟨v4, rfl⟩, es3, hg3, hs3, hS3⟩
                  have HFIN := Lib.hid (halves_done HH.out HG2.out HS2.out hg3 hs3 (by omega) (by omega) h3)
                  clear hg3 hs3
                  go_wp2
                  go_end0
                  exact ⟨⟨_, rfl⟩, es3, HFIN.out.1, HFIN.out.2, hS3⟩
                · have hs3 : SortedR es mid c := by
                    by_cases e : mid < en
                    · have he : en = c := by omega
                      have := HG2.out.sorted_out HH.out.r1 (.inr (Nat.le_refl _))
                      rw [he] at this
                      exact this
                    · have he : en = mid := by omega
                      have := HG2.out.sorted_out HH.out.r2 (.inr (by omega))
                      rw [he] at this
                      exact this
                  have HFIN := Lib.hid (halves_done HH.out HG2.out HS2.out (Seg.refl _ _ _) hs3 (by omega) (by omega) h3)
                  clear hs3
                  by_cases e : mid < en
                  · have d5 : (mid : Int) < (mid : Int) + (m : Int) - (i : Int) := by omega
                    have d6 : ¬ (mid : Int) + (m : Int) - (i : Int) < (c : Int) := by omega
                    clear hri
                    go_wp2
                    all_goals (go_end0; exact ⟨⟨_, rfl⟩, _, HFIN.out.1, HFIN.out.2, hS2⟩)
                  · have d5 : ¬ (mid : Int) < (mid : Int) + (m : Int) - (i : Int) := by omega
                    clear hri
                    go_wp2
                    all_goals (go_end0; exact ⟨⟨_, rfl⟩, _, HFIN.out.1, HFIN.out.2, hS2⟩)
              · have d3 : ¬ (a : Int) < (i : Int) := by omega
                clear hle
                by_cases hri : mid < en ∧ en < c
                · obtain ⟨ra, rb⟩ := hri
                  have d5 : (mid : Int) < (mid : Int) + (m : Int) - (i : Int) := by omega
                  have d6 : (mid : Int) + (m : Int) - (i : Int) < (c : Int) := by omega
                  have CR := HIH.out es rfl mid en c mid ((mid : Int) + (m : Int) - (i : Int)) c rfl (by omega) rfl (by omega) (by omega) rb (by omega) (HG2.out.sorted_out HH.out.r1 (.inr (Nat.le_refl _))) (HG2.out.sorted_out HH.out.r2 (.inr (by omega))) wr hS2
                  have HCR := Lib.hid CR
                  clear CR
                  go_wp2_with fail
                  refine HCR.out.mono ?_
                  rintro e w4 ⟨⟨v4, rfl⟩, es3, hg3, hs3, hS3⟩
                  have HFIN := Lib.hid (halves_done HH.out HG2.out HS2.out hg3 hs3 (by omega) (by omega) h3)
                  clear hg3 hs3
                  go_wp2
                  go_end0
                  exact ⟨⟨_, rfl⟩, es3, HFIN.out.1, HFIN.out.2, hS3⟩
                · have hs3 : SortedR es mid c := by
                    by_cases e : mid < en
                    · have he : en = c := by omega
                      have := HG2.out.sorted_out HH.out.r1 (.inr (Nat.le_refl _))
                      rw [he] at this
                      exact this
                    · have he : en = mid := by omega
                      have := HG2.out.sorted_out HH.out.r2 (.inr (by omega))
                      rw [he] at this
                      exact this
                  have HFIN := Lib.hid (halves_done HH.out HG2.out HS2.out (Seg.refl _ _ _) hs3 (by omega) (by omega) h3)
                  clear hs3
                  by_cases e : mid < en
                  · have d5 : (mid : Int) < (mid : Int) + (m : Int) - (i : Int) := by omega
                    have d6 : ¬ (mid : Int) + (m : Int) - (i : Int) < (c : Int) := by omega
                    clear hri
                    go_wp2
                    all_goals (go_end0; exact ⟨⟨_, rfl⟩, _, HFIN.out.1, HFIN.out.2, hS2⟩)
                  · have d5 : ¬ (mid : Int) < (mid : Int) + (m : Int) - (i : Int) := by omega
                    clear hri
                    go_wp2
                    all_goals (go_end0; exact ⟨⟨_, rfl⟩, _, HFIN.out.1, HFIN.out.2, hS2⟩)

theorem symMerge_any (w : World) (B b cp : Nat) : ∀ (N : Nat) (es : List Ev) (a m c : Nat) (W : World), c - a ≤ N → es.length ≤ 100000 → a < m → m < c → c ≤ es.length → SortedR es a m → SortedR es m c → SSt w B b es W →
    Calls Tryd.prog 63 #[.slice (some ⟨b, 0, Option.none⟩) es.length cp, .int .i64 a, .int .i64 m, .int .i64 c, cmpV] W (RetSort w B b es a c) := by
  intro N
  induction N with
  | zero =>
    intro es a m c W h0 _ h1 h2
    omega
  | succ N ih =>
    intro es a m c W hN hes h1 h2 h3 hs1 hs2 hS
    by_cases c1 : m - a = 1
    · exact sym1_any w B b cp es a m c W hes h1 h2 h3 hs2 hS c1
    by_cases c2 : c - m = 1
    · exact sym2_any w B b cp es a m c W hes h1 h2 h3 hs1 hS c1 c2
    exact sym3_any w B b cp N es a m c W hN hes h1 h2 h3 hs1 hs2 hS c1 c2 ih
end Go.Proofs.YtcoablindoknpaaDoor
