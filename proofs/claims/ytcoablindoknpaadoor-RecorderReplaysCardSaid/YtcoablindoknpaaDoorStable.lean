/-
  stableCmpFunc and SortStableFunc over events; Merge of the program.
-/
import Derived.Test.YtcoablindoknpaaDoorSym3
import Derived.Test.YtcoablindoknpaaDoorConcat
namespace Go.Proofs.YtcoablindoknpaaDoor
open Go.RowKit

/-- A multiple of d. -/
def Mul (d x : Nat) : Prop := ∃ k, x = k * d
theorem mul_next {d x y : Nat} (hx : Mul d x) (hy : Mul d y) (h : x < y) : x + d ≤ y := by
  obtain ⟨k, rfl⟩ := hx
  obtain ⟨j, rfl⟩ := hy
  have hk : k < j := by
    rcases Nat.lt_or_ge k j with h' | h'
    · exact h'
    · have := Nat.mul_le_mul_right d h'
      omega
  have := Nat.mul_le_mul_right d (show k + 1 ≤ j from hk)
  rw [Nat.succ_mul] at this
  exact this
theorem mul_zero (d : Nat) : Mul d 0 := ⟨0, by simp⟩
theorem mul_add {d x : Nat} (h : Mul d x) : Mul d (x + d) := by
  obtain ⟨k, rfl⟩ := h
  exact ⟨k + 1, by rw [Nat.succ_mul]⟩
theorem mul_half {d x : Nat} (h : Mul (2 * d) x) : Mul d x := by
  obtain ⟨k, rfl⟩ := h
  exact ⟨k * 2, by rw [Nat.mul_assoc]⟩
/-- The blocks of d places from lo on are in order; n places in all. -/
def Blk (es : List Ev) (d lo n : Nat) : Prop := ∀ x, Mul d x → lo ≤ x → SortedR es x (min (x + d) n)
/-- The blocks of d places below a are in order. -/
def Dne (es : List Ev) (d a : Nat) : Prop := ∀ x, Mul d x → x + d ≤ a → SortedR es x (x + d)
theorem dne_step {es cur : List Ev} {d a : Nat} (h : Dne es d a) (hs : Seg es cur a (a + d)) (hso : SortedR cur a (a + d)) (ha : Mul d a) : Dne cur d (a + d) := by
  intro x hx hxa
  by_cases e : x = a
  · rw [e]; exact hso
  · have hlt : x + d ≤ a := by
      rcases Nat.lt_or_ge x a with h' | h'
      · exact mul_next hx ha h'
      · have := mul_next ha hx (by omega); omega
    exact hs.sorted_out (h x hx hlt) (.inl hlt)
theorem blk_of {es cur : List Ev} {d a n : Nat} (h : Dne es d a) (hs : Seg es cur a n) (hso : SortedR cur a n) (ha : Mul d a) (hn : n < a + d) : Blk cur d 0 n := by
  intro x hx _ i j h1 h2 h3
  by_cases e : x + d ≤ a
  · rw [hs.out i (by omega), hs.out j (by omega)]
    exact h x hx e i j h1 h2 (by omega)
  · have hxa : x = a := by
      rcases Nat.lt_or_ge x a with h' | h'
      · have := mul_next hx ha h'; omega
      · rcases Nat.lt_or_ge a x with h'' | h''
        · have := mul_next ha hx h''; omega
        · omega
    exact hso i j (by omega) h2 (by omega)
theorem blk_keep {es cur : List Ev} {d a b n : Nat} (h : Blk es d a n) (hs : Seg es cur a b) (hab : a ≤ b) : Blk cur d b n := by
  intro x hx hb
  exact hs.sorted_out (h x hx (by omega)) (.inr hb)
theorem blk_done {es : List Ev} {d n : Nat} (h : Blk es d 0 n) (hn : n ≤ d) : SortedR es 0 n := by
  have := h 0 (mul_zero d) (Nat.le_refl _)
  rw [Nat.zero_add, Nat.min_eq_right hn] at this
  exact this

def St1 (w : World) (B b : Nat) (es : List Ev) (x y : Value) (wr : World) : Prop := ∃ (a : Nat) (cur : List Ev), Mul 20 a ∧ a ≤ es.length ∧ x = .int .i64 a ∧ y = .int .i64 ((a : Int) + 20) ∧ Seg es cur 0 es.length ∧ Dne cur 20 a ∧ SSt w B b cur wr
def St2 (w : World) (B b : Nat) (es : List Ev) (z : Value) (wr : World) : Prop := ∃ (d : Nat) (cur : List Ev), 0 < d ∧ d ≤ 2 * es.length + 20 ∧ z = .int .i64 d ∧ Seg es cur 0 es.length ∧ Blk cur d 0 es.length ∧ SSt w B b cur wr
def St3 (w : World) (B b : Nat) (es : List Ev) (d : Nat) (x y : Value) (wr : World) : Prop := ∃ (a : Nat) (cur : List Ev), Mul (2 * d) a ∧ a ≤ es.length ∧ x = .int .i64 a ∧ y = .int .i64 ((a : Int) + 2 * (d : Int)) ∧ Seg es cur 0 es.length ∧ Dne cur (2 * d) a ∧ Blk cur d a es.length ∧ SSt w B b cur wr

set_option maxRecDepth 100000 in
set_option maxHeartbeats 1600000 in
theorem stable_any (w : World) (B b cp : Nat) (es : List Ev) (hes : es.length ≤ 100000) (W : World) (hS : SSt w B b es W) :
    Calls Tryd.prog 57 #[.slice (some ⟨b, 0, Option.none⟩) es.length cp, .int .i64 es.length, cmpV] W (RetSort w B b es 0 es.length) := by
  have CI : ∀ (cur : List Ev), cur.length = es.length → ∀ (a' c' : Nat) (x y : Int), x = (a' : Int) → y = (c' : Int) → a' ≤ c' → c' ≤ es.length → ∀ W', SSt w B b cur W' →
      Calls Tryd.prog 62 #[.slice (some ⟨b, 0, Option.none⟩) es.length cp, .int .i64 x, .int .i64 y, cmpV] W' (RetSort w B b cur a' c') := by
    intro cur hc a' c' x y hx hy g1 g2 W' hS'
    subst hx hy
    have := insSort_any w B b cp cur (by omega) a' c' g1 (by omega) W' hS'
    rw [hc] at this
    exact this
  have CM : ∀ (cur : List Ev), cur.length = es.length → ∀ (a' m' c' : Nat) (x y z : Int), x = (a' : Int) → y = (m' : Int) → z = (c' : Int) → a' < m' → m' < c' → c' ≤ es.length → SortedR cur a' m' → SortedR cur m' c' → ∀ W', SSt w B b cur W' →
      Calls Tryd.prog 63 #[.slice (some ⟨b, 0, Option.none⟩) es.length cp, .int .i64 x, .int .i64 y, .int .i64 z, cmpV] W' (RetSort w B b cur a' c') := by
    intro cur hc a' m' c' x y z hx hy hz g1 g2 g3 q1 q2 W' hS'
    subst hx hy hz
    have := symMerge_any w B b cp _ cur a' m' c' W' (Nat.le_refl _) (by omega) g1 g2 (by omega) q1 q2 hS'
    rw [hc] at this
    exact this
  unfold cmpV at *
  have HCI := Lib.hid CI
  have HCM := Lib.hid CM
  clear CI CM
  go_enter Tryd.func57, Tryd.ntmps57
  go_wp2
  go_loopw [7, 8] (St1 w B b es) (fun x _ _ => es.length - (intOf x).toNat)
  case atStart => exact ⟨0, es, mul_zero _, Nat.zero_le _, rfl, rfl, Seg.refl _ _ _, (fun x _ h => by omega), hS⟩
  case round =>
    clear hS
    obtain ⟨a, cur, hma, hal, rfl, rfl, hseg, hdn, hSt⟩ := hrel
    have hcl := Lib.hid hseg.len
    have HSG := Lib.hid hseg
    have HDN := Lib.hid hdn
    clear hseg hdn
    by_cases hab : a + 20 ≤ es.length
    · have d1 : (a : Int) + 20 ≤ (es.length : Int) := by omega
      have CC := HCI.out cur hcl.out a (a + 20) a ((a : Int) + 20) rfl (by omega) (by omega) hab wr hSt
      have HCC := Lib.hid CC
      clear CC
      go_wp2_with fail
      refine HCC.out.mono ?_
      rintro e w2 ⟨⟨v, rfl⟩, c2, hg2, hs2, hS2⟩
      have HD2 := Lib.hid (dne_step HDN.out hg2 hs2 hma)
      have HG2 := Lib.hid (HSG.out.trans (hg2.wide (Nat.zero_le _) hab))
      clear hg2 hs2
      go_wp2
      go_roundw
      case rel => exact ⟨a + 20, c2, mul_add hma, hab, by go_num, by congr 1, HG2.out, HD2.out, hS2⟩
      case measure => simp [intOf]; omega
    · have d1 : ¬ (a : Int) + 20 ≤ (es.length : Int) := by omega
      have CC := HCI.out cur hcl.out a es.length a es.length rfl rfl hal (Nat.le_refl _) wr hSt
      have HCC := Lib.hid CC
      clear CC
      go_wp2_with fail
      refine HCC.out.mono ?_
      rintro e w2 ⟨⟨v, rfl⟩, c2, hg2, hs2, hS2⟩
      have HB2 := Lib.hid (blk_of HDN.out hg2 hs2 hma (by omega))
      have HG2 := Lib.hid (HSG.out.trans (hg2.wide (Nat.zero_le _) (Nat.le_refl _)))
      clear hg2 hs2 HDN HSG HCC
      go_wp2
      go_loopw [6] (St2 w B b es) (fun z _ => 2 * es.length + 40 - (intOf z).toNat)
      case atStart => exact ⟨20, c2, by decide, by omega, rfl, HG2.out, HB2.out, hS2⟩
      case round =>
        clear HB2 HG2 hS2 hSt
        obtain ⟨d, cur, hd0, hd1, rfl, hseg, hbk, hSt⟩ := hrel
        have hcl := Lib.hid hseg.len
        have HSG := Lib.hid hseg
        have HBK := Lib.hid hbk
        clear hseg hbk
        by_cases hdn : d < es.length
        · have d2 : (d : Int) < (es.length : Int) := by omega
          go_wp2
          go_loopw [7, 8] (St3 w B b es d) (fun x _ _ => es.length - (intOf x).toNat)
          case atStart => exact ⟨0, cur, mul_zero _, Nat.zero_le _, rfl, by congr 1; omega, HSG.out, (fun x _ h => by omega), HBK.out, hSt⟩
          case round =>
            clear HSG HBK hSt hcl
            obtain ⟨a, cur, hma, hal, rfl, rfl, hseg, hdne, hbk, hSt⟩ := hrel
            have hcl := Lib.hid hseg.len
            have HSG := Lib.hid hseg
            have HDN := Lib.hid hdne
            have HBK := Lib.hid hbk
            clear hseg hdne hbk
            have k1 := HBK.out a (mul_half hma) (Nat.le_refl _)
            have k2 := HBK.out (a + d) (mul_add (mul_half hma)) (Nat.le_add_right _ _)
            by_cases hab : a + 2 * d ≤ es.length
            · have d3 : (a : Int) + 2 * (d : Int) ≤ (es.length : Int) := by omega
              rw [Nat.min_eq_left (by omega)] at k1 k2
              have CC := HCM.out cur hcl.out a (a + d) (a + d + d) a ((a : Int) + (d : Int)) ((a : Int) + 2 * (d : Int)) rfl (by omega) (by omega) (by omega) (by omega) (by omega) k1 k2 wr hSt
              have HCC := Lib.hid CC
              clear CC k1 k2
              go_wp2_with fail
              refine HCC.out.mono ?_
              rintro e w2 ⟨⟨v, rfl⟩, c3, hg2, hs2, hS2⟩
              rw [show a + d + d = a + 2 * d by omega] at hg2 hs2
              have HD2 := Lib.hid (dne_step HDN.out hg2 hs2 hma)
              have HK2 := Lib.hid (blk_keep HBK.out hg2 (by omega))
              have HG2 := Lib.hid (HSG.out.trans (hg2.wide (Nat.zero_le _) hab))
              clear hg2 hs2 HCC
              go_wp2
              go_roundw
              case rel => exact ⟨a + 2 * d, c3, mul_add hma, hab, by congr 1, by congr 1, HG2.out, HD2.out, HK2.out, hS2⟩
              case measure => simp [intOf]; omega
            · have d3 : ¬ (a : Int) + 2 * (d : Int) ≤ (es.length : Int) := by omega
              by_cases hm : a + d < es.length
              · have d4 : (a : Int) + (d : Int) < (es.length : Int) := by omega
                rw [Nat.min_eq_left (by omega)] at k1
                rw [Nat.min_eq_right (by omega)] at k2
                have CC := HCM.out cur hcl.out a (a + d) es.length a ((a : Int) + (d : Int)) es.length rfl (by omega) rfl (by omega) hm (Nat.le_refl _) k1 k2 wr hSt
                have HCC := Lib.hid CC
                clear CC k1 k2
                go_wp2_with fail
                refine HCC.out.mono ?_
                rintro e w2 ⟨⟨v, rfl⟩, c3, hg2, hs2, hS2⟩
                have HK2 := Lib.hid (blk_of HDN.out hg2 hs2 hma (by omega))
                have HG2 := Lib.hid (HSG.out.trans (hg2.wide (Nat.zero_le _) (Nat.le_refl _)))
                clear hg2 hs2 HCC
                go_wp2
                go_roundw
                case rel => exact ⟨2 * d, c3, by omega, by omega, by congr 1; omega, HG2.out, HK2.out, hS2⟩
                case measure => simp [intOf]; omega
              · have d4 : ¬ (a : Int) + (d : Int) < (es.length : Int) := by omega
                rw [Nat.min_eq_right (by omega)] at k1
                have HK2 := Lib.hid (blk_of HDN.out (Seg.refl _ _ _) k1 hma (by omega))
                clear k1 k2
                go_wp2
                go_roundw
                case rel => exact ⟨2 * d, cur, by omega, by omega, by congr 1; omega, HSG.out, HK2.out, hSt⟩
                case measure => simp [intOf]; omega
        · have d2 : ¬ (d : Int) < (es.length : Int) := by omega
          have HE := Lib.hid (blk_done HBK.out (by omega))
          go_wp2
          go_end0
          exact ⟨⟨_, rfl⟩, cur, HSG.out, HE.out, hSt⟩
end Go.Proofs.YtcoablindoknpaaDoor
