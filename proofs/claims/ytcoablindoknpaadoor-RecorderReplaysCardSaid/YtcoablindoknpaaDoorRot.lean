/-
  rotateCmpFunc: two neighbouring blocks of a row change places.
-/
import Derived.Test.YtcoablindoknpaaDoorSortM
namespace Go.Proofs.YtcoablindoknpaaDoor
open Go.RowKit

/-- What stands at place p when the blocks [a, m) and [m, b) have changed places. -/
def rotF (es : List Ev) (a m b p : Nat) : Ev := if a ≤ p ∧ p < a + (b - m) then at_ es (p + (m - a)) else if a + (b - m) ≤ p ∧ p < b then at_ es (p - (b - m)) else at_ es p
/-- The blocks [m - i, m) and [m, m + j) are still to change places. -/
structure RotI (T : Nat → Ev) (len m i j : Nat) (cur : List Ev) : Prop where
  len : cur.length = len
  out : ∀ p, p < m - i ∨ m + j ≤ p → at_ cur p = T p
  lft : ∀ p, m - i ≤ p → p < m - i + j → at_ cur (p + i) = T p
  rgt : ∀ p, m - i + j ≤ p → p < m + j → at_ cur (p - j) = T p
theorem rot_start {es : List Ev} {a m b : Nat} (h1 : a ≤ m) (h2 : m ≤ b) : RotI (rotF es a m b) es.length m (m - a) (b - m) es := by
  refine ⟨rfl, fun p hp => ?_, fun p h3 h4 => ?_, fun p h3 h4 => ?_⟩ <;> unfold rotF
  · rw [if_neg (by omega), if_neg (by omega)]
  · rw [if_pos (by omega)]
  · rw [if_neg (by omega), if_pos (by omega)]
theorem rot_gt {T : Nat → Ev} {len m i j : Nat} {cur : List Ev} (h : RotI T len m i j cur) (hij : j < i) (hm : i ≤ m) (hl : m + j ≤ len) : RotI T len m (i - j) j (swapN cur (m - i) m j) := by
  have hat := swapN_at cur (m - i) m j (by omega) (by rw [h.len]; exact hl)
  refine ⟨(swapN_len _ _ _ _).trans h.len, fun p hp => ?_, fun p h3 h4 => ?_, fun p h3 h4 => ?_⟩ <;> rw [hat]
  · by_cases e : m - i ≤ p ∧ p < m - i + j
    · rw [if_pos e, ← h.lft p e.1 e.2, show p - (m - i) + m = p + i by omega]
    · rw [if_neg e, if_neg (by omega), h.out p (by omega)]
  · rw [if_neg (by omega), if_pos (by omega), ← h.rgt p (by omega) (by omega), show p + (i - j) - m + (m - i) = p - j by omega]
  · rw [if_neg (by omega), if_neg (by omega), h.rgt p (by omega) h4]
theorem rot_lt {T : Nat → Ev} {len m i j : Nat} {cur : List Ev} (h : RotI T len m i j cur) (hij : i < j) (hm : i ≤ m) (hl : m + j ≤ len) : RotI T len m i (j - i) (swapN cur (m - i) (m + j - i) i) := by
  have hat := swapN_at cur (m - i) (m + j - i) i (by omega) (by rw [h.len]; omega)
  refine ⟨(swapN_len _ _ _ _).trans h.len, fun p hp => ?_, fun p h3 h4 => ?_, fun p h3 h4 => ?_⟩ <;> rw [hat]
  · by_cases e : m + j - i ≤ p ∧ p < m + j - i + i
    · rw [if_neg (by omega), if_pos e, ← h.rgt p (by omega) (by omega), show p - (m + j - i) + (m - i) = p - j by omega]
    · rw [if_neg (by omega), if_neg e, h.out p (by omega)]
  · rw [if_neg (by omega), if_neg (by omega), h.lft p h3 (by omega)]
  · rw [if_pos (by omega), ← h.lft p (by omega) (by omega), show p - (j - i) - (m - i) + (m + j - i) = p + i by omega]
theorem rot_end {T : Nat → Ev} {len m i : Nat} {cur : List Ev} (h : RotI T len m i i cur) (hm : i ≤ m) (hl : m + i ≤ len) : ∀ p, at_ (swapN cur (m - i) m i) p = T p := by
  intro p
  rw [swapN_at cur (m - i) m i (by omega) (by rw [h.len]; exact hl)]
  by_cases e : m - i ≤ p ∧ p < m - i + i
  · rw [if_pos e, ← h.lft p e.1 e.2, show p - (m - i) + m = p + i by omega]
  · rw [if_neg e]
    by_cases e2 : m ≤ p ∧ p < m + i
    · rw [if_pos e2, ← h.rgt p (by omega) (by omega), show p - m + (m - i) = p - i by omega]
    · rw [if_neg e2, h.out p (by omega)]
def RetRot (w : World) (B b : Nat) (es : List Ev) (a m c : Nat) (e : Ending) (W : World) : Prop := (∃ v, e = .returned v) ∧ ∃ es', es'.length = es.length ∧ (∀ p, at_ es' p = rotF es a m c p) ∧ SSt w B b es' W
def RoR (w : World) (B b : Nat) (es : List Ev) (a m c : Nat) (x y : Value) (wr : World) : Prop := ∃ (i j : Nat) (cur : List Ev), 0 < i ∧ 0 < j ∧ i ≤ m - a ∧ m + j ≤ c ∧ x = .int .i64 i ∧ y = .int .i64 j ∧ RotI (rotF es a m c) es.length m i j cur ∧ SSt w B b cur wr

set_option maxRecDepth 100000 in
set_option maxHeartbeats 4000000 in
theorem rotate_any (w : World) (B b cp : Nat) (es : List Ev) (hes : es.length ≤ 100000) (a m c : Nat) (h1 : a < m) (h2 : m < c) (h3 : c ≤ es.length) (W : World) (hS : SSt w B b es W) :
    Calls Tryd.prog 69 #[.slice (some ⟨b, 0, Option.none⟩) es.length cp, .int .i64 a, .int .i64 m, .int .i64 c, cmpV] W (RetRot w B b es a m c) := by
  have C : ∀ (cur : List Ev), cur.length = es.length → ∀ (a' c' n' : Nat) (x y z : Int), x = (a' : Int) → y = (c' : Int) → z = (n' : Int) → a' + n' ≤ c' → c' + n' ≤ es.length → ∀ W', SSt w B b cur W' →
      Calls Tryd.prog 76 #[.slice (some ⟨b, 0, Option.none⟩) es.length cp, .int .i64 x, .int .i64 y, .int .i64 z, cmpV] W' (RetNone w B b (swapN cur a' c' n')) := by
    intro cur hc a' c' n' x y z hx hy hz g1 g2 W' hS'
    subst hx hy hz
    have := swapRange_any w B b cp cur (by omega) a' c' n' g1 (by omega) W' hS'
    rw [hc] at this
    exact this
  unfold cmpV at *
  have HC := Lib.hid C
  clear C
  go_enter Tryd.func69, Tryd.ntmps69
  go_wp2
  go_loopw [10, 11] (RoR w B b es a m c) (fun x y _ => (intOf x).toNat + (intOf y).toNat)
  case atStart => exact ⟨m - a, c - m, es, by omega, by omega, Nat.le_refl _, by omega, by congr 1; omega, by congr 1; omega, rot_start (by omega) (by omega), hS⟩
  case round =>
    obtain ⟨i, j, cur, hi0, hj0, hi, hj, rfl, rfl, hR, hSt⟩ := hrel
    have HR := Lib.hid hR
    have hcl := Lib.hid hR.len
    clear hR hS
    by_cases hij : i = j
    · subst hij
      have CC := HC.out cur hcl.out (m - i) m i ((m : Int) - (i : Int)) m i (by omega) rfl rfl (by omega) (by omega) wr hSt
      have HE := Lib.hid (rot_end HR.out (by omega) (by omega))
      have HCC := Lib.hid CC
      clear CC HC
      go_wp2_with fail
      refine HCC.out.mono ?_
      rintro e w2 ⟨⟨v, rfl⟩, hS2⟩
      go_wp2
      go_end0
      exact ⟨⟨_, rfl⟩, _, (swapN_len _ _ _ _).trans hcl.out, HE.out, hS2⟩
    · have e1 : ((i : Int) != (j : Int)) = true := by simp; omega
      by_cases hgt : j < i
      · have d1 : (j : Int) < (i : Int) := by omega
        have CC := HC.out cur hcl.out (m - i) m j ((m : Int) - (i : Int)) m j (by omega) rfl rfl (by omega) (by omega) wr hSt
        have HE := Lib.hid (rot_gt HR.out hgt (by omega) (by omega))
        have HCC := Lib.hid CC
        clear CC
        go_wp2_with fail
        refine HCC.out.mono ?_
        rintro e w2 ⟨⟨v, rfl⟩, hS2⟩
        go_wp2
        go_roundw
        case rel => exact ⟨i - j, j, _, by omega, hj0, by omega, hj, by congr 1; omega, rfl, HE.out, hS2⟩
        case measure => simp [intOf]; omega
      · have d1 : ¬ (j : Int) < (i : Int) := by omega
        have CC := HC.out cur hcl.out (m - i) (m + j - i) i ((m : Int) - (i : Int)) ((m : Int) + (j : Int) - (i : Int)) i (by omega) (by omega) rfl (by omega) (by omega) wr hSt
        have HE := Lib.hid (rot_lt HR.out (by omega) (by omega) (by omega))
        have HCC := Lib.hid CC
        clear CC
        go_wp2_with fail
        refine HCC.out.mono ?_
        rintro e w2 ⟨⟨v, rfl⟩, hS2⟩
        go_wp2
        go_roundw
        case rel => exact ⟨i, j - i, _, hi0, by omega, hi, by omega, rfl, by congr 1; omega, HE.out, hS2⟩
        case measure => simp [intOf]; omega
end Go.Proofs.YtcoablindoknpaaDoor
