/-
  The text of an event and of a list of events: line and Format of the program.
-/
import Derived.Test.YtcoablindoknpaaDoorBuild
import Derived.Test.YtcoablindoknpaaDoorValid
namespace Go.Proofs.YtcoablindoknpaaDoor
open Go.RowKit

theorem Tab.below {w w' : World} (h : Tab w) (hb : Below w.heap.size w w') : Tab w' := by
  refine ⟨?_, Nat.lt_of_lt_of_le h.2 hb.size⟩
  have h1 := h.1
  unfold Lib.TabIs World.var? at *
  rw [globalPow] at *
  simp only [Option.bind_some] at *
  rw [hb.block _ h.2]
  exact h1
/-- A string is returned; old memory is as it was. -/
def RetStr (l : List UInt8) (w : World) (e : Ending) (w' : World) : Prop := e = .returned (.string ⟨l.toArray⟩) ∧ Below w.heap.size w w'

theorem ret_str {a : ByteArray} {l : List UInt8} (h : a.data.toList = l) : Ending.returned (.string a) = .returned (.string ⟨l.toArray⟩) := by
  subst h
  rfl
theorem below_grow' (w : World) (k : Nat) (os : Array Obj) : Below w.heap.size w (Go.Sort.grow (w.drewN k) os) :=
  ⟨rfl, rfl, rfl, by show w.heap.size ≤ (w.heap ++ os).size; simp, fun j hj => by show (w.heap ++ os)[j]? = w.heap[j]?; rw [Array.getElem?_append_left hj]⟩
theorem itoa_any (n : Int) (h0 : -9223372036854775808 ≤ n) (h1 : n ≤ 9223372036854775807) (w : World) (T : Tab w) : Calls Tryd.prog 51 #[.int .i64 n] w (RetStr (Lib.itoa n) w) := by
  refine (Tryd.strconv_Itoa n h0 h1 w T.1).mono ?_
  rintro e w' ⟨rfl, k, os, rfl⟩
  exact ⟨rfl, below_grow' w k os⟩

theorem decDigits_len : ∀ (k u : Nat), u < 10 ^ (k + 1) → (Lib.decDigits u).length ≤ k + 1
  | 0, u, h => by rw [Lib.decDigits]; rw [dif_pos (by simpa using h)]; simp
  | k + 1, u, h => by
    rw [Lib.decDigits]
    split
    · simp
    · rw [List.length_append, List.length_singleton]
      have := decDigits_len k (u / 10) (by rw [Nat.pow_succ] at h; omega)
      omega
theorem itoa_len (k : Nat) (n : Int) (h0 : 0 ≤ n) (h1 : n.toNat < 10 ^ (k + 1)) : (Lib.itoa n).length ≤ k + 1 := by
  unfold Lib.itoa
  rw [if_neg (by omega)]
  exact decDigits_len k _ h1
def lineS (e : Ev) : List UInt8 := Lib.itoa e.time ++ [32] ++ Lib.itoa e.device ++ [46] ++ Lib.itoa e.signal ++ [32] ++ (if e.value then [111, 110] else [111, 102, 102]) ++ (if e.quality = 0 then [] else [32, 63] ++ Lib.itoa e.quality)

theorem good_bounds {e : Ev} (h : goodB e = true) : (0 ≤ e.time ∧ e.time ≤ 1000000000) ∧ (0 ≤ e.device ∧ e.device ≤ 999) ∧ (0 ≤ e.signal ∧ e.signal ≤ 999) ∧ 0 ≤ e.quality ∧ e.quality ≤ 9 := by
  simpa [goodB, withinB] using h

set_option maxRecDepth 100000 in
set_option maxHeartbeats 2000000 in
theorem line_any (e : Ev) (w : World) (T : Tab w) (hg : goodB e = true) : Calls Tryd.prog 39 #[.agg e.cells.toArray] w (RetStr (lineS e) w) := by
  obtain ⟨⟨a1, a2⟩, ⟨a3, a4⟩, ⟨a5, a6⟩, a7, a8⟩ := good_bounds hg
  obtain ⟨t, d, s, v, q⟩ := e
  dsimp only at a1 a2 a3 a4 a5 a6 a7 a8
  have hbox := box_below w (Obj.cells #[.int .i64 t, .int .i64 d, .int .i64 s, .bool v, .int .i64 q] 26)
  have EN : EB (w.alloc (Obj.cells #[.int .i64 t, .int .i64 d, .int .i64 s, .bool v, .int .i64 q] 26)) w.heap.size 0 ⟨t, d, s, v, q⟩ := EB.new w ⟨t, d, s, v, q⟩ 26
  have hlt : w.heap.size < (w.alloc (Obj.cells #[.int .i64 t, .int .i64 d, .int .i64 s, .bool v, .int .i64 q] 26)).heap.size := by simp
  have C1 := fun W (hb : Below w.heap.size w W) => itoa_any t (by omega) (by omega) W (T.below hb)
  have C2 := fun W (hb : Below w.heap.size w W) => itoa_any d (by omega) (by omega) W (T.below hb)
  have C3 := fun W (hb : Below w.heap.size w W) => itoa_any s (by omega) (by omega) W (T.below hb)
  have C4 := fun W (hb : Below w.heap.size w W) => itoa_any q (by omega) (by omega) W (T.below hb)
  have hS : lineS ⟨t, d, s, v, q⟩ = Lib.itoa t ++ [32] ++ Lib.itoa d ++ [46] ++ Lib.itoa s ++ [32] ++ (if v then [111, 110] else [111, 102, 102]) ++ (if q = 0 then [] else [32, 63] ++ Lib.itoa q) := rfl
  have L1 := itoa_len 9 t a1 (by omega)
  have L2 := itoa_len 2 d a3 (by omega)
  have L3 := itoa_len 2 s a5 (by omega)
  have L4 := itoa_len 0 q a7 (by omega)
  generalize Lib.itoa t = s1 at *
  generalize Lib.itoa d = s2 at *
  generalize Lib.itoa s = s3 at *
  generalize Lib.itoa q = s4 at *
  have H1 := Lib.hid C1
  have H2 := Lib.hid C2
  have H3 := Lib.hid C3
  have H4 := Lib.hid C4
  have HS := Lib.hid hS
  unfold Ev.cells
  dsimp only
  clear C1 C2 C3 C4 hS hg T
  cases v
  · obtain ⟨q0, q1, q2, q3, q4⟩ := id EN
    dsimp only at q0 q1 q2 q3 q4
    go_enter Tryd.func39, Tryd.ntmps39
    go_wp2_with fail
    generalize w.alloc (Obj.cells #[.int .i64 t, .int .i64 d, .int .i64 s, .bool false, .int .i64 q] 26) = W1 at *
    have hs1 := hbox.size
    have m1 : ¬ 9223372036854775807 < s1.length + 1 := by omega
    have m2 : ¬ 9223372036854775807 < s1.length + 1 + s2.length := by omega
    have m3 : ¬ 9223372036854775807 < s1.length + 1 + s2.length + 1 := by omega
    have m4 : ¬ 9223372036854775807 < s1.length + 1 + s2.length + 1 + s3.length := by omega
    have m5 : ¬ 9223372036854775807 < s1.length + 1 + s2.length + 1 + s3.length + 1 := by omega
    have m6 : ¬ 9223372036854775807 < s1.length + 1 + s2.length + 1 + s3.length + 1 + 3 := by omega
    go_region_held3 (fun w' => w'.cell? ⟨w.heap.size, 0, Option.none⟩ = some (.int .i64 t) ∧ w'.cell? ⟨w.heap.size, 0 + 1, Option.none⟩ = some (.int .i64 d) ∧ w'.cell? ⟨w.heap.size, 0 + 2, Option.none⟩ = some (.int .i64 s)) (go_keep)
      (first
       | ((go_at_call 51; refine (H1.out _ (below_drewN hbox 1)).mono ?_; rintro e w3 ⟨rfl, hb3'⟩; have hb3 := below_same (a := W1) (B' := W1.heap.size) hb3' rfl rfl rfl rfl (Nat.le_refl _); have hw3 := hbox.trans (hb3.mono hs1); obtain ⟨t0, t1, t2, t3, t4⟩ := EN.below hb3 hlt))
       | ((go_at_call 51; refine (H2.out _ hw3).mono ?_; rintro e w4 ⟨rfl, hb4⟩; have hb14 := hb3.trans (hb4.mono hb3.size); have hw4 := hbox.trans (hb14.mono hs1); obtain ⟨v0, v1, v2, v3, v4⟩ := EN.below hb14 hlt))
       | ((go_at_call 51; refine (H3.out _ hw4).mono ?_; rintro e w5 ⟨rfl, hb5⟩; have hb15 := hb14.trans (hb5.mono hb14.size); have hw5 := hbox.trans (hb15.mono hs1); obtain ⟨x0, x1, x2, x3, x4⟩ := EN.below hb15 hlt)))
    clear t0 t1 t2 t3 t4 v0 v1 v2 v3 v4 q0 q1 q2 q3 q4 m1 m2 m3 m4 m5 m6
    have hsw := hw5.size
    by_cases hq : q = 0
    · have e1 : (q != 0) = false := by simpa using hq
      have HQ := Lib.hid hq
      clear hq
      go_wp2
      go_ret
      exact ⟨ret_str (by rw [HS.out, if_pos HQ.out]; simp), hw5⟩
    · have e1 : (q != 0) = true := by simpa using hq
      have HQ := Lib.hid hq
      clear hq
      go_wp2_with fail
      refine (H4.out _ hw5).mono ?_
      rintro e w6 ⟨rfl, hb6⟩
      go_wp2
      go_ret
      exact ⟨ret_str (by rw [HS.out, if_neg HQ.out]; simp), hw5.trans (hb6.mono hsw)⟩
  · obtain ⟨q0, q1, q2, q3, q4⟩ := id EN
    dsimp only at q0 q1 q2 q3 q4
    go_enter Tryd.func39, Tryd.ntmps39
    go_wp2_with fail
    generalize w.alloc (Obj.cells #[.int .i64 t, .int .i64 d, .int .i64 s, .bool true, .int .i64 q] 26) = W1 at *
    have hs1 := hbox.size
    have m1 : ¬ 9223372036854775807 < s1.length + 1 := by omega
    have m2 : ¬ 9223372036854775807 < s1.length + 1 + s2.length := by omega
    have m3 : ¬ 9223372036854775807 < s1.length + 1 + s2.length + 1 := by omega
    have m4 : ¬ 9223372036854775807 < s1.length + 1 + s2.length + 1 + s3.length := by omega
    have m5 : ¬ 9223372036854775807 < s1.length + 1 + s2.length + 1 + s3.length + 1 := by omega
    have m6 : ¬ 9223372036854775807 < s1.length + 1 + s2.length + 1 + s3.length + 1 + 2 := by omega
    go_region_held3 (fun w' => w'.cell? ⟨w.heap.size, 0, Option.none⟩ = some (.int .i64 t) ∧ w'.cell? ⟨w.heap.size, 0 + 1, Option.none⟩ = some (.int .i64 d) ∧ w'.cell? ⟨w.heap.size, 0 + 2, Option.none⟩ = some (.int .i64 s)) (go_keep)
      (first
       | ((go_at_call 51; refine (H1.out _ (below_drewN hbox 1)).mono ?_; rintro e w3 ⟨rfl, hb3'⟩; have hb3 := below_same (a := W1) (B' := W1.heap.size) hb3' rfl rfl rfl rfl (Nat.le_refl _); have hw3 := hbox.trans (hb3.mono hs1); obtain ⟨t0, t1, t2, t3, t4⟩ := EN.below hb3 hlt))
       | ((go_at_call 51; refine (H2.out _ hw3).mono ?_; rintro e w4 ⟨rfl, hb4⟩; have hb14 := hb3.trans (hb4.mono hb3.size); have hw4 := hbox.trans (hb14.mono hs1); obtain ⟨v0, v1, v2, v3, v4⟩ := EN.below hb14 hlt))
       | ((go_at_call 51; refine (H3.out _ hw4).mono ?_; rintro e w5 ⟨rfl, hb5⟩; have hb15 := hb14.trans (hb5.mono hb14.size); have hw5 := hbox.trans (hb15.mono hs1); obtain ⟨x0, x1, x2, x3, x4⟩ := EN.below hb15 hlt)))
    clear t0 t1 t2 t3 t4 v0 v1 v2 v3 v4 q0 q1 q2 q3 q4 m1 m2 m3 m4 m5 m6
    have hsw := hw5.size
    by_cases hq : q = 0
    · have e1 : (q != 0) = false := by simpa using hq
      have HQ := Lib.hid hq
      clear hq
      go_wp2
      go_ret
      exact ⟨ret_str (by rw [HS.out, if_pos HQ.out]; simp), hw5⟩
    · have e1 : (q != 0) = true := by simpa using hq
      have HQ := Lib.hid hq
      clear hq
      go_wp2_with fail
      refine (H4.out _ hw5).mono ?_
      rintro e w6 ⟨rfl, hb6⟩
      go_wp2
      go_ret
      exact ⟨ret_str (by rw [HS.out, if_neg HQ.out]; simp), hw5.trans (hb6.mono hsw)⟩
end Go.Proofs.YtcoablindoknpaaDoor
