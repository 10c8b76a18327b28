/-
  The reference's Number.
-/
import Derived.Test.YtcikenlflcofbaaDoorBase
import Derived.Test.YtcikenlflcofbaaDoorPrN
import Derived.Test.YtcikenlflcofbaaDoorM1
namespace Go.Proofs.YtcikenlflcofbaaDoor
open Go.RowKit

theorem ret_str {a : ByteArray} {l : List UInt8} (h : a.data.toList = l) : Ending.returned (.string a) = .returned (.string ⟨l.toArray⟩) := by
  subst h
  rfl
theorem decDigits_len : ∀ (k u : Nat), u < 10 ^ (k + 1) → (Lib.decDigits u).length ≤ k + 1
  | 0, u, h => by rw [Lib.decDigits]; rw [dif_pos (by simpa using h)]; simp
  | k + 1, u, h => by
    rw [Lib.decDigits]
    split
    · simp
    · rw [List.length_append, List.length_singleton]
      have := decDigits_len k (u / 10) (by rw [Nat.pow_succ] at h; omega)
      omega
theorem decDigits_big {u : Nat} (h : ¬ u < 10) : Lib.decDigits u = Lib.decDigits (u / 10) ++ Lib.decDigits (u % 10) := by
  rw [Lib.decDigits, dif_neg h, Lib.decDigits_one (i := u % 10) (Nat.mod_lt _ (by decide))]

set_option maxRecDepth 100000 in
set_option maxHeartbeats 2000000 in
theorem rnumber_any (u : Nat) : u < 10 ^ 12 → ∀ w : World, Calls Tryd.prog 21 #[.int .i64 u] w (RetStr (Lib.decDigits u) w) := by
  induction u using Nat.strongRecOn with
  | _ u ih =>
  intro hb w
  by_cases h10 : u < 10
  · obtain ⟨c, hc, hcn⟩ : ∃ c : UInt8, c = UInt8.ofNat (48 + u) ∧ (48 + (u : Int)) = (c.toNat : Int) := ⟨_, rfl, by
      rw [UInt8.toNat_ofNat']; omega⟩
    have e0 := Lib.hid ((Lib.decDigits_one h10).trans (by rw [← hc]) : Lib.decDigits u = [c])
    have hcv := conv_byte (P := Tryd.prog) 91 9 5 Tryd.underlying91 Tryd.underlying5 Tryd.underlying9 c (48 + (u : Int)) hcn w
    clear hc hcn ih
    go_enter Tryd.func21, Tryd.ntmps21
    go_wp2
    go_ret
    exact ⟨ret_str (by rw [e0.out]), box_below _ _⟩
  · have e0 := Lib.hid (decDigits_big h10)
    have C1 : ∀ W, Calls Tryd.prog 21 #[.int .i64 ((u : Int) / 10)] W (RetStr (Lib.decDigits (u / 10)) W) := fun W => by
      rw [show (u : Int) / 10 = ((u / 10 : Nat) : Int) by omega]
      exact ih (u / 10) (by omega) (by omega) W
    have C2 : ∀ W, Calls Tryd.prog 21 #[.int .i64 ((u : Int) % 10)] W (RetStr (Lib.decDigits (u % 10)) W) := fun W => by
      rw [show (u : Int) % 10 = ((u % 10 : Nat) : Int) by omega]
      exact ih (u % 10) (by omega) (by omega) W
    have L1 := decDigits_len 12 (u / 10) (by omega)
    have L2 := decDigits_len 0 (u % 10) (by omega)
    generalize Lib.decDigits (u / 10) = s1 at *
    generalize Lib.decDigits (u % 10) = s2 at *
    have HC1 := Lib.hid C1
    have HC2 := Lib.hid C2
    clear C1 C2 ih
    go_enter Tryd.func21, Tryd.ntmps21
    go_wp2_with fail
    refine (HC1.out _).mono ?_
    rintro e w1 ⟨rfl, hb1⟩
    go_wp2_with fail
    refine (HC2.out _).mono ?_
    rintro e w2 ⟨rfl, hb2⟩
    go_wp2
    go_ret
    exact ⟨ret_str (by rw [e0.out]; simp), hb1.trans (hb2.mono hb1.size)⟩
end Go.Proofs.YtcikenlflcofbaaDoor
