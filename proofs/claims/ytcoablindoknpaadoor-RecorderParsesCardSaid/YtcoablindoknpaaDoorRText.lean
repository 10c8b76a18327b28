/-
  The reference's texts: Number, line and Format.
-/
import Derived.Test.YtcoablindoknpaaDoorFormat
namespace Go.Proofs.YtcoablindoknpaaDoor
open Go.RowKit

theorem decDigits_big {u : Nat} (h : ¬ u < 10) : Lib.decDigits u = Lib.decDigits (u / 10) ++ Lib.decDigits (u % 10) := by
  rw [Lib.decDigits, dif_neg h, Lib.decDigits_one (i := u % 10) (Nat.mod_lt _ (by decide))]

set_option maxRecDepth 100000 in
set_option maxHeartbeats 2000000 in
theorem rnumber_any (u : Nat) : u < 10 ^ 12 → ∀ w : World, Calls Tryd.prog 54 #[.int .i64 u] w (RetStr (Lib.decDigits u) w) := by
  induction u using Nat.strongRecOn with
  | _ u ih =>
  intro hb w
  by_cases h10 : u < 10
  · obtain ⟨c, hc, hcn⟩ : ∃ c : UInt8, c = UInt8.ofNat (48 + u) ∧ (48 + (u : Int)) = (c.toNat : Int) := ⟨_, rfl, by
      rw [UInt8.toNat_ofNat']; omega⟩
    have e0 := Lib.hid ((Lib.decDigits_one h10).trans (by rw [← hc]) : Lib.decDigits u = [c])
    have hcv := conv_byte (P := Tryd.prog) 62 9 5 Tryd.underlying62 Tryd.underlying5 Tryd.underlying9 c (48 + (u : Int)) hcn w
    clear hc hcn ih
    go_enter Tryd.func54, Tryd.ntmps54
    go_wp2
    go_ret
    exact ⟨ret_str (by rw [e0.out]), box_below _ _⟩
  · have e0 := Lib.hid (decDigits_big h10)
    have C1 : ∀ W, Calls Tryd.prog 54 #[.int .i64 ((u : Int) / 10)] W (RetStr (Lib.decDigits (u / 10)) W) := fun W => by
      rw [show (u : Int) / 10 = ((u / 10 : Nat) : Int) by omega]
      exact ih (u / 10) (by omega) (by omega) W
    have C2 : ∀ W, Calls Tryd.prog 54 #[.int .i64 ((u : Int) % 10)] W (RetStr (Lib.decDigits (u % 10)) W) := fun W => by
      rw [show (u : Int) % 10 = ((u % 10 : Nat) : Int) by omega]
      exact ih (u % 10) (by omega) (by omega) W
    have L1 := decDigits_len 12 (u / 10) (by omega)
    have L2 := decDigits_len 0 (u % 10) (by omega)
    generalize Lib.decDigits (u / 10) = s1 at *
    generalize Lib.decDigits (u % 10) = s2 at *
    have HC1 := Lib.hid C1
    have HC2 := Lib.hid C2
    clear C1 C2 ih
    go_enter Tryd.func54, Tryd.ntmps54
    go_wp2_with fail
    refine (HC1.out _).mono ?_
    rintro e w1 ⟨rfl, hb1⟩
    go_wp2_with fail
    refine (HC2.out _).mono ?_
    rintro e w2 ⟨rfl, hb2⟩
    go_wp2
    go_ret
    exact ⟨ret_str (by rw [e0.out]; simp), hb1.trans (hb2.mono hb1.size)⟩
theorem rnumberI_any (n : Int) (h0 : 0 ≤ n) (h1 : n < 10 ^ 12) (w : World) : Calls Tryd.prog 54 #[.int .i64 n] w (RetStr (Lib.itoa n) w) := by
  obtain ⟨u, rfl⟩ : ∃ u : Nat, n = u := ⟨n.toNat, by omega⟩
  have e0 : Lib.itoa (u : Int) = Lib.decDigits u := by unfold Lib.itoa; rw [if_neg (by omega)]; rfl
  rw [e0]
  exact rnumber_any u (by omega) w

def rlineS (e : Ev) : List UInt8 := lineS e ++ [10]
set_option maxRecDepth 100000 in
set_option maxHeartbeats 2000000 in
theorem rline_any (e : Ev) (w : World) (hg : goodB e = true) : Calls Tryd.prog 44 #[.agg e.cells.toArray] w (RetStr (rlineS e) w) := by
  obtain ⟨⟨a1, a2⟩, ⟨a3, a4⟩, ⟨a5, a6⟩, a7, a8⟩ := good_bounds hg
  obtain ⟨t, d, s, v, q⟩ := e
  dsimp only at a1 a2 a3 a4 a5 a6 a7 a8
  have hbox := box_below w (Obj.cells #[.int .i64 t, .int .i64 d, .int .i64 s, .bool v, .int .i64 q] 26)
  have EN : EB (w.alloc (Obj.cells #[.int .i64 t, .int .i64 d, .int .i64 s, .bool v, .int .i64 q] 26)) w.heap.size 0 ⟨t, d, s, v, q⟩ := EB.new w ⟨t, d, s, v, q⟩ 26
  have hlt : w.heap.size < (w.alloc (Obj.cells #[.int .i64 t, .int .i64 d, .int .i64 s, .bool v, .int .i64 q] 26)).heap.size := by simp
  have C1 := fun W => rnumberI_any t (by omega) (by omega) W
  have C2 := fun W => rnumberI_any d (by omega) (by omega) W
  have C3 := fun W => rnumberI_any s (by omega) (by omega) W
  have C4 := fun W => rnumberI_any q (by omega) (by omega) W
  have hS : rlineS ⟨t, d, s, v, q⟩ = Lib.itoa t ++ [32] ++ Lib.itoa d ++ [46] ++ Lib.itoa s ++ [32] ++ (if v then [111, 110] else [111, 102, 102]) ++ (if q = 0 then [] else [32, 63] ++ Lib.itoa q) ++ [10] := rfl
  have L1 := itoa_len 9 t a1 (by omega)
  have L2 := itoa_len 2 d a3 (by omega)
  have L3 := itoa_len 2 s a5 (by omega)
  have L4 := itoa_len 0 q a7 (by omega)
  generalize Lib.itoa t = s1 at *
  generalize Lib.itoa d = s2 at *
  generalize Lib.itoa s = s3 at *
  generalize Lib.itoa q = s4 at *
  have H1 := Lib.hid C1
  have H2 := Lib.hid C2
  have H3 := Lib.hid C3
  have H4 := Lib.hid C4
  have HS := Lib.hid hS
  unfold Ev.cells
  dsimp only
  clear C1 C2 C3 C4 hS hg
  obtain ⟨q0, q1, q2, q3, q4⟩ := id EN
  dsimp only at q0 q1 q2 q3 q4
  go_enter Tryd.func44, Tryd.ntmps44
  go_wp2_with fail
  generalize w.alloc (Obj.cells #[.int .i64 t, .int .i64 d, .int .i64 s, .bool v, .int .i64 q] 26) = W1 at *
  have hs1 := hbox.size
  have m1 : ¬ 9223372036854775807 < s1.length + 1 := by omega
  have m2 : ¬ 9223372036854775807 < s1.length + 1 + s2.length := by omega
  have m3 : ¬ 9223372036854775807 < s1.length + 1 + s2.length + 1 := by omega
  have m4 : ¬ 9223372036854775807 < s1.length + 1 + s2.length + 1 + s3.length := by omega
  go_region_held3 (fun w' => w'.cell? ⟨w.heap.size, 0, Option.none⟩ = some (.int .i64 t) ∧ w'.cell? ⟨w.heap.size, 0 + 1, Option.none⟩ = some (.int .i64 d) ∧ w'.cell? ⟨w.heap.size, 0 + 2, Option.none⟩ = some (.int .i64 s)) (go_keep)
    (first
     | ((go_at_call 54; (with_reducible refine (H1.out _).mono ?_); rintro e w3 ⟨rfl, hb3'⟩; have hb3 := below_same (a := W1) (B' := W1.heap.size) hb3' rfl rfl rfl rfl (Nat.le_refl _); have hw3 := hbox.trans (hb3.mono hs1); obtain ⟨t0, t1, t2, t3, t4⟩ := EN.below hb3 hlt))
     | ((go_at_call 54; (with_reducible refine (H2.out _).mono ?_); rintro e w4 ⟨rfl, hb4⟩; have hb14 := hb3.trans (hb4.mono hb3.size); have hw4 := hbox.trans (hb14.mono hs1); obtain ⟨v0, v1, v2, v3, v4⟩ := EN.below hb14 hlt))
     | ((go_at_call 54; (with_reducible refine (H3.out _).mono ?_); rintro e w5 ⟨rfl, hb5⟩; have hb15 := hb14.trans (hb5.mono hb14.size); have hw5 := hbox.trans (hb15.mono hs1); obtain ⟨x0, x1, x2, x3, x4⟩ := EN.below hb15 hlt)))
  clear t0 t1 t2 t3 t4 v0 v1 v2 v3 v4 q0 q1 q2 q3 q4 m1 m2 m3 m4
  have hsw := hw5.size
  cases v
  all_goals
    by_cases hq : q = 0
    · have e1 : (q != 0) = false := by simpa using hq
      have HQ := Lib.hid hq
      clear hq
      go_wp2
      go_ret
      exact ⟨ret_str (by rw [HS.out, if_pos HQ.out]; simp), hw5⟩
    · have e1 : (q != 0) = true := by simpa using hq
      have HQ := Lib.hid hq
      clear hq
      go_wp2_with fail
      refine (H4.out _).mono ?_
      rintro e w6 ⟨rfl, hb6⟩
      go_wp2
      go_ret
      exact ⟨ret_str (by rw [HS.out, if_neg HQ.out]; simp), hw5.trans (hb6.mono hsw)⟩

theorem bytes_add (a b : List UInt8) : (⟨a.toArray⟩ : ByteArray) ++ ⟨b.toArray⟩ = ⟨(a ++ b).toArray⟩ := by
  apply ByteArray.ext
  simp
def RfR (w : World) (es : List Ev) (v i : Value) (wr : World) : Prop :=
  ∃ k : Nat, k ≤ es.length ∧ i = .int .i64 k ∧ v = .string ⟨(fmtS (es.take k)).toArray⟩ ∧ FirstGood es k ∧ Below w.heap.size w wr

set_option maxRecDepth 100000 in
set_option maxHeartbeats 4000000 in
theorem rformat_any (A : Option Addr) (c B : Nat) (es : List Ev) (w : World) (hB : B ≤ w.heap.size) (hr : Rws EvC 5 w B A es.length es) (hn : es.length ≤ 1000) :
    Calls Tryd.prog 29 #[.slice A es.length c] w (RetStr (formatS es) w) := by
  go_enter Tryd.func29, Tryd.ntmps29
  go_wp2
  go_loopw [3, 8] (RfR w es) (fun _ i _ => es.length - (intOf i).toNat)
  case atStart => exact ⟨0, Nat.zero_le _, rfl, rfl, firstGood_zero _, Below.refl _ _⟩
  case round =>
    obtain ⟨k, hk, rfl, rfl, hfg, hbel⟩ := hrel
    have HF := Lib.hid hfg
    have hsz := hbel.size
    have hlen := fmt_len hk hfg
    clear hfg
    by_cases hlt : k < es.length
    · obtain ⟨b, o, x, rfl, hbB, hx, E0⟩ := evAt hr hlt
      obtain ⟨p0, p1, p2, p3, p4⟩ := E0.below (hbel.mono hB) hbB
      have HX := Lib.hid hx
      have HS := Lib.hid (fmtS_succ hx)
      generalize fmtS (es.take k) = fs at *
      have hbx := box_below wr (Obj.cells #[.int .i64 x.time, .int .i64 x.device, .int .i64 x.signal, .bool x.value, .int .i64 x.quality] 26)
      have EN := EB.new wr x 26
      have C := fun W => rgood_any x W
      have C2 := rline_any x
      unfold Ev.cells at C C2
      clear hx
      cases hg : goodB x with
      | false =>
        rw [hg] at C
        have HC := Lib.hid C
        have HG := Lib.hid hg
        clear C hg E0 hlen C2
        go_wp2_with fail
        refine (HC.out _).mono ?_
        rintro e w3 ⟨rfl, hb3⟩
        go_wp2
        go_ret
        exact ⟨ret_str (by rw [format_bad HX.out HG.out]), hbel.trans ((hbx.trans (hb3.mono (by simp))).mono hsz)⟩
      | true =>
      rw [hg] at C
      have HC := Lib.hid C
      have HC2 := Lib.hid C2
      have HG := Lib.hid hg
      have hll := lineS_len hg
      have hrl : (rlineS x).length ≤ 31 := by unfold rlineS; simp; omega
      clear C hg E0 C2 hll
      go_wp2_with fail
      refine (HC.out _).mono ?_
      rintro e w3 ⟨rfl, hb3⟩
      have hw3 := hbx.trans (hb3.mono (by simp))
      obtain ⟨q0, q1, q2, q3, q4⟩ := EN.below hb3 (by simp)
      have hbel3 := hbel.trans (hw3.mono hsz)
      clear p0 p1 p2 p3 p4 HC
      go_wp2_with fail
      refine (HC2.out _ HG.out).mono ?_
      rintro e w4 ⟨rfl, hb4⟩
      have hbel4 := hbel3.trans (hb4.mono hbel3.size)
      have HRL := Lib.hid (show rlineS x = lineS x ++ [10] from rfl)
      generalize rlineS x = rl at *
      go_wp2
      go_roundw
      case rel =>
        refine ⟨k + 1, by omega, by go_num, ?_, firstGood_succ HF.out HX.out HG.out, hbel4⟩
        rw [HS.out, HRL.out, bytes_add, List.append_assoc]
      case measure => simp [intOf]; omega
    · obtain rfl : k = es.length := by omega
      have HE := Lib.hid (format_ok HF.out)
      go_wp2
      go_ret
      exact ⟨ret_str (by rw [HE.out]; simp), hbel⟩
end Go.Proofs.YtcoablindoknpaaDoor
