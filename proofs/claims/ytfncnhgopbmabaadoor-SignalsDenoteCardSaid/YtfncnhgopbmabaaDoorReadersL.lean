/-
  The law SignalsReaders: Readers returns the specified subscriptions, in order, for any data set.
-/
import Derived.Test.YtfncnhgopbmabaaDoorReadersP
import Derived.Test.YtfncnhgopbmabaaDoorReadersR
namespace Go.Proofs.YtfncnhgopbmabaaDoor
open Go.RowKit

/-- Two ints' cells. -/
def PrC (_ : World) (_ : Nat) (cs : List Value) (p : Nat × Nat) : Prop := cs = [.int .i64 (p.1 : Int), .int .i64 (p.2 : Int)]
theorem PrC.mono : Mono PrC := fun _ _ _ _ _ _ _ _ h => h
theorem pairs_own {base n c : Nat} {e : TypeId} {w : World} {A : Option Addr} {xs : List (Nat × Nat)} (h : w.ownsRow base e 2 (.slice A n c) n (pairC xs)) (hn : xs.length = n) : Rws PrC 2 w w.heap.size A n xs :=
  Rws.of_own (f := fun p => [Value.int .i64 (p.1 : Int), Value.int .i64 (p.2 : Int)]) h hn (fun _ _ => rfl) (fun _ _ => rfl)

set_option maxRecDepth 100000 in
set_option maxHeartbeats 4000000 in
theorem readersLaw_any (a0 a1 a2 a3 a4 : Value) (A : Option Addr) (c B : Nat) (rs : List RelayM) (relay set : Int) (w : World) (hB : B ≤ w.heap.size) (h : Conf w B a0 a1 a2 a3 a4 A c rs) :
    Calls Tryd.prog 5 #[.agg #[a0, a1, a2, a3, a4, .slice A rs.length c], .int .i64 relay, .int .i64 set] w (RetBool true w) := by
  have hbox := box_below w (Obj.cells #[a0, a1, a2, a3, a4, .slice A rs.length c] 49)
  have CB0 := CB.new w a0 a1 a2 a3 a4 (.slice A rs.length c) 49
  have H := Lib.hid h
  clear h
  go_enter Tryd.func5, Tryd.ntmps5
  go_wp2_with fail
  refine (known_any _).mono ?_
  rintro e w1 ⟨rfl, hb1⟩
  have CB1 := CB0.below hb1 CB0.lt
  have hw1 := hbox.trans (hb1.mono (by simp))
  have hs1 := hw1.size
  clear hb1 CB0 hbox
  obtain ⟨-, q0, q1, q2, q3, q4, q5⟩ := id CB1
  go_wp2_with fail
  refine (clarge_any a0 a1 a2 a3 a4 A c B rs w1 (by omega) (H.out.mono (Nat.le_refl _) (hw1.mono hB))).mono ?_
  rintro e w2 ⟨b, hsm, rfl, hb2⟩
  have hw2 := hw1.trans (hb2.mono hs1)
  have CB2 := CB1.below hb2 CB1.lt
  have hs2 := hw2.size
  clear hb2 CB1 q0 q1 q2 q3 q4 q5
  cases b
  case true =>
    go_wp2
    go_ret
    exact ⟨rfl, hw2⟩
  have hS : SmallAll rs := hsm rfl
  clear hsm
  obtain ⟨hlt2, q0, q1, q2, q3, q4, q5⟩ := id CB2
  have hgl := gone_len (relay := relay) (set := set) hS rs.length 0 hS.1 (by omega)
  have C1 := fun W' (hb : Below w2.heap.size w2 W') => readers_any a0 a1 a2 a3 a4 A c B rs relay set W' (by have := hb.size; omega) (H.out.mono (Nat.le_refl _) ((hw2.trans (hb.mono hs2)).mono hB)) hS
  have C2 := fun W' (hb : Below w2.heap.size w2 W') => rReaders_any a0 a1 a2 a3 a4 A c B rs relay set W' (by have := hb.size; omega) (H.out.mono (Nat.le_refl _) ((hw2.trans (hb.mono hs2)).mono hB)) hS
  generalize hL : gone rs relay set rs.length 0 = L at *
  have HC1 := Lib.hid C1
  have HC2 := Lib.hid C2
  clear C1 C2 hL hS
  go_wp2
  go_region_held3 (fun w' => w'.cell? ⟨w.heap.size, 0, Option.none⟩ = some a0 ∧ w'.cell? ⟨w.heap.size, 1, Option.none⟩ = some a1 ∧ w'.cell? ⟨w.heap.size, 2, Option.none⟩ = some a2 ∧ w'.cell? ⟨w.heap.size, 3, Option.none⟩ = some a3 ∧ w'.cell? ⟨w.heap.size, 4, Option.none⟩ = some a4 ∧ w'.cell? ⟨w.heap.size, 5, Option.none⟩ = some (.slice A rs.length c)) (go_keep)
    (first
     | ((go_at_call 21; refine (HC1.out _ (below_drewN (Below.refl _ _) 1)).mono ?_; rintro e w3 ⟨A3, c3, rfl, -, -, ho3, hb3'⟩; have hb3 := below_same (a := w2) (B' := w2.heap.size) hb3' rfl rfl rfl rfl (Nat.le_refl _); obtain ⟨-, r0, r1, r2, r3, r4, r5⟩ := CB2.below hb3 hlt2))
     | ((go_at_call 22; refine (HC2.out _ hb3).mono ?_; rintro e w4 ⟨A4, c4, rfl, -, -, ho4, hb4⟩; have hb24 := hb3.trans (hb4.mono hb3.size); obtain ⟨-, t0, t1, t2, t3, t4, t5⟩ := CB2.below hb24 hlt2)))
  have R1 := Lib.hid (pairs_own (own_below ho3 hb4 (Nat.le_refl _)) rfl)
  have R2 := Lib.hid (pairs_own ho4 rfl)
  have hw4 := hw2.trans (hb24.mono hs2)
  have hne : ((L.length : Int) != (L.length : Int)) = false := by simp
  clear ho3 ho4 hb3' hb3 hb4 q0 q1 q2 q3 q4 q5 r0 r1 r2 r3 r4 r5 t0 t1 t2 t3 t4 t5 HC1 HC2 CB2
  go_wp2
  go_loopw [9] (fun i wr => ∃ k : Nat, k ≤ L.length ∧ i = .int .i64 k ∧ ∃ d, wr = w4.drewN d) (fun i _ => L.length - (intOf i).toNat)
  case atStart => exact ⟨0, Nat.zero_le _, rfl, 0, rfl⟩
  case round =>
    obtain ⟨k, hk, rfl, d, rfl⟩ := hrel
    by_cases hlt : k < L.length
    · obtain ⟨b1, o1, ds1, p1, rfl, -, hx1, -, rfl, hat1⟩ := R1.out.at_ hlt
      obtain ⟨b2, o2, ds2, p2, rfl, -, hx2, -, rfl, hat2⟩ := R2.out.at_ hlt
      obtain rfl : p1 = p2 := by rw [hx1] at hx2; exact Option.some.inj hx2
      have g0 : w4.cell? ⟨b1, o1 + k * 2, Option.none⟩ = some (.int .i64 (p1.1 : Int)) := hat1 0 _ rfl
      have g1 : w4.cell? ⟨b1, o1 + k * 2 + 1, Option.none⟩ = some (.int .i64 (p1.2 : Int)) := hat1 1 _ rfl
      have f0 : w4.cell? ⟨b2, o2 + k * 2, Option.none⟩ = some (.int .i64 (p1.1 : Int)) := hat2 0 _ rfl
      have f1 : w4.cell? ⟨b2, o2 + k * 2 + 1, Option.none⟩ = some (.int .i64 (p1.2 : Int)) := hat2 1 _ rfl
      have hk0 : (0 : Int) ≤ (k : Int) := by omega
      have hkn : (k : Int) < (L.length : Int) := by omega
      have n1 : ((p1.1 : Int) != (p1.1 : Int)) = false := by simp
      have n2 : ((p1.2 : Int) != (p1.2 : Int)) = false := by simp
      clear hx1 hx2 hat1 hat2
      go_wp2
      go_quiet (fail)
      go_wp2
      go_roundw
      case rel => exact ⟨k + 1, by omega, by go_num, _, rfl⟩
      case measure => simp [intOf]; omega
    · go_wp2
      go_ret
      exact ⟨rfl, below_drewN hw4 d⟩
end Go.Proofs.YtfncnhgopbmabaaDoor
