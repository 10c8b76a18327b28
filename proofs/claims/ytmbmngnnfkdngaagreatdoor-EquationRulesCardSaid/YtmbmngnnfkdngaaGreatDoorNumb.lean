/-
  A number's digits: equation.number over strconv.Atoi; what a call's world holds of the library's variables.
-/
import Derived.Test.YtmbmngnnfkdngaaGreatDoorPrim
import Derived.Lib.AtoiAll
import Derived.Lib.AtoiErrMem
namespace Go.Proofs.YtmbmngnnfkdngaaGreatDoor
open Go.RowKit

theorem fold_ge (l : List UInt8) : ∀ a, a ≤ l.foldl (fun a c => 10 * a + (c.toNat - 48)) a := by
  induction l with
  | nil => intro a; exact Nat.le_refl _
  | cons x l ih =>
    intro a
    have := ih (10 * a + (x.toNat - 48))
    simp only [List.foldl_cons]
    omega
theorem parseU_digits : ∀ (l : List UInt8) (a : Nat), l.all digitB = true → (Lib.parseUint10 a l = .ok (l.foldl (fun a c => 10 * a + (c.toNat - 48)) a)) ∨ (Lib.parseUint10 a l = .range ∧ 18446744073709551616 ≤ l.foldl (fun a c => 10 * a + (c.toNat - 48)) a)
  | [], a, _ => .inl rfl
  | c :: r, a, h => by
    simp only [List.all_cons, Bool.and_eq_true] at h
    have hd : 48 ≤ c.toNat ∧ c.toNat ≤ 57 := by
      have h1 := h.1
      rw [digitB_nat] at h1
      simpa using h1
    have hg := fold_ge r (10 * a + (c.toNat - 48))
    simp only [Lib.parseUint10, if_pos hd, List.foldl_cons]
    by_cases h1 : 1844674407370955162 ≤ a
    · rw [if_pos h1]
      exact .inr ⟨rfl, by omega⟩
    · rw [if_neg h1]
      by_cases h2 : 18446744073709551616 ≤ a * 10 + (c.toNat - 48)
      · rw [if_pos h2]
        exact .inr ⟨rfl, by omega⟩
      · rw [if_neg h2]
        have := parseU_digits r (a * 10 + (c.toNat - 48)) h.2
        rw [show 10 * a + (c.toNat - 48) = a * 10 + (c.toNat - 48) by omega]
        exact this
theorem atoi_digits {c : UInt8} {r : List UInt8} (h : (c :: r).all digitB = true) : (Lib.atoiAll (c :: r) = .ok (decV (c :: r) : Int) ∧ decV (c :: r) < 9223372036854775808) ∨ (Lib.atoiAll (c :: r) = .range ∧ 32767 < decV (c :: r)) := by
  have hd : 48 ≤ c.toNat ∧ c.toNat ≤ 57 := by
    simp only [List.all_cons, Bool.and_eq_true] at h
    have h1 := h.1
    rw [digitB_nat] at h1
    simpa using h1
  have hm : Lib.parseMag (c :: r) = Lib.parseUint10 0 (c :: r) := by unfold Lib.parseMag; rw [if_neg (List.cons_ne_nil _ _)]
  have hp := parseU_digits (c :: r) 0 h
  unfold Lib.atoiAll
  simp only []
  rw [if_neg (show ¬ (c.toNat = 43 ∨ c.toNat = 45) by omega), hm]
  have hdv : (c :: r).foldl (fun a c => 10 * a + (c.toNat - 48)) 0 = decV (c :: r) := rfl
  rw [hdv] at hp
  rcases hp with e | ⟨e, hb⟩
  · rw [e]
    simp only []
    by_cases hbig : 9223372036854775808 ≤ decV (c :: r)
    · rw [if_pos ⟨by omega, hbig⟩]
      exact .inr ⟨rfl, by omega⟩
    · rw [if_neg (fun q => hbig q.2), if_neg (fun q => by omega), if_neg (by omega)]
      exact .inl ⟨rfl, by omega⟩
  · rw [e]
    exact .inr ⟨rfl, by omega⟩

/-- What the library's variables hold, as far as the program looks. -/
structure Lw (w : World) : Prop where
  err : ∃ ev, w.cell? ⟨2, 0, Option.none⟩ = some ev ∧ (ev = .nilIface ∨ ∃ te pe, ev = .iface te pe)
  tab : Lib.TabIs Tryz.prog w "internal/strconv.uint64pow10" .u64 Lib.pow10Tab
  lt : 5 < w.heap.size
theorem globalPow : Tryz.prog.globalNamed "internal/strconv.uint64pow10" = some 3 := by kernel_rfl
theorem Lw.keep {w w' : World} (h : Lw w) (hs : w.heap.size ≤ w'.heap.size) (hk : ∀ b, b ≤ 5 → w'.heap[b]? = w.heap[b]?) : Lw w' := by
  refine ⟨?_, ?_, Nat.lt_of_lt_of_le h.lt hs⟩
  · obtain ⟨ev, h1, h2⟩ := h.err
    exact ⟨ev, (World.cell?_of_block (a := ⟨2, 0, Option.none⟩) (hk _ (by decide))).trans h1, h2⟩
  · have h1 := h.tab
    unfold Lib.TabIs World.var? at *
    rw [globalPow] at *
    simp only [Option.bind_some] at *
    rw [hk _ (by decide)]
    exact h1
theorem Lw.below {w w' : World} (h : Lw w) (hb : Below w.heap.size w w') : Lw w' := h.keep hb.size fun b hb' => hb.block b (by have := h.lt; omega)
theorem Lw.grown {w w' : World} {q : Nat} (h : Lw w) (hg : w.grownBy w' (some q)) (hq : 5 < q) : Lw w' := h.keep hg.size fun b hb => hg.block b (by have := h.lt; omega) (fun e => by injection e; omega)
theorem Lw.grownN {w w' : World} (h : Lw w) (hg : w.grownBy w' Option.none) : Lw w' := h.keep hg.size fun b hb => hg.block b (by have := h.lt; omega) (fun e => by cases e)

def RetPair (v u : Value) (w : World) (e : Ending) (w' : World) : Prop := e = .returned (.tuple #[v, u]) ∧ Below w.heap.size w w'
def RetBad (w : World) (e : Ending) (w' : World) : Prop := ∃ n t u, e = .returned (.tuple #[.int .i64 n, .iface t u]) ∧ Below w.heap.size w w'
theorem atoi_ok (l : List UInt8) (hl : l.length ≤ 1000) (v : Int) (h : Lib.atoiAll l = .ok v) (w : World) : Calls Tryz.prog 55 #[.string ⟨l.toArray⟩] w (RetPair (.int .i64 v) .nilIface w) := by
  refine (Tryz.strconv_Atoi_ok ⟨l.toArray⟩ (by show l.toArray.size ≤ _; simp; omega) v (by simpa using h) w).mono ?_
  rintro e w' ⟨rfl, h1⟩
  refine ⟨rfl, ?_⟩
  rcases h1 with rfl | ⟨t, rfl⟩
  · exact Below.refl _ _
  · exact Lib.bytesWorld_below _ _ _
theorem atoi_bad (l : List UInt8) (hl : l.length ≤ 1000) (h : Lib.atoiAll l = .range) (w : World) (hw : Lw w) : Calls Tryz.prog 55 #[.string ⟨l.toArray⟩] w (RetBad w) := by
  obtain ⟨ev, h1, h2⟩ := hw.err
  refine (Tryz.strconv_Atoi_range ⟨l.toArray⟩ (by show l.toArray.size ≤ _; simp; omega) (by simpa using h) ev w h1 h2).mono ?_
  rintro e w' ⟨N, rfl, -, -, hb⟩
  exact ⟨_, _, _, rfl, hb⟩
def RetStopB (a er : Int) (w : World) (e : Ending) (w' : World) : Prop := e = .panicked (stopV a er) ∧ Below w.heap.size w w'

set_option maxRecDepth 100000 in
set_option maxHeartbeats 4000000 in
theorem number_no (c : UInt8) (r : List UInt8) (pos : Int) (hl : (c :: r).length ≤ 1000) (hd : (c :: r).all digitB = true) (hb : 32767 < decV (c :: r) ∨ (1 < (c :: r).length ∧ c = 48)) (w : World) (hw : Lw w) :
    Calls Tryz.prog 35 #[.string ⟨(c :: r).toArray⟩, .int .i64 pos] w (RetStopB pos 2 w) := by
  rcases atoi_digits hd with ⟨h1, h2⟩ | ⟨h1, h2⟩
  · have HC := Lib.hid (atoi_ok (c :: r) hl _ h1 w)
    have hkb : ({ data := (c :: r).toArray } : ByteArray)[0]'(by show 0 < (c :: r).toArray.size; simp) = c := rfl
    by_cases hbig : 32767 < decV (c :: r)
    · obtain ⟨v, hv⟩ : ∃ v : Int, ((decV (c :: r) : Nat) : Int) = v := ⟨_, rfl⟩
      have hv1 : (32767 : Int) < v := by omega
      rw [hv] at HC
      clear hv h1 h2 hb hd hbig hkb
      generalize hL : c :: r = L at *
      clear hL
      go_enter Tryz.func35, Tryz.ntmps35
      go_wp2_with fail
      refine HC.out.mono ?_
      rintro e w1 ⟨rfl, hb1⟩
      go_wp2
      exact bodyPost_panic rfl ⟨rfl, hb1⟩
    · obtain ⟨v, hv⟩ : ∃ v : Int, ((decV (c :: r) : Nat) : Int) = v := ⟨_, rfl⟩
      have hv1 : ¬ (32767 : Int) < v := by omega
      obtain ⟨hlen, hc⟩ := hb.resolve_left hbig
      subst hc
      rw [hv] at HC
      have hlen' : 1 < r.length + 1 := hlen
      clear hv h1 h2 hb hd hbig hlen
      go_enter Tryz.func35, Tryz.ntmps35
      go_wp2_with fail
      refine HC.out.mono ?_
      rintro e w1 ⟨rfl, hb1⟩
      go_wp2
      exact bodyPost_panic rfl ⟨rfl, hb1⟩
  · have HC := Lib.hid (atoi_bad (c :: r) hl h1 w hw)
    clear h1 h2 hb hd hw
    generalize hL : c :: r = L at *
    clear hL
    go_enter Tryz.func35, Tryz.ntmps35
    go_wp2_with fail
    refine HC.out.mono ?_
    rintro e w1 ⟨v, t, u, rfl, hb1⟩
    go_wp2
    exact bodyPost_panic rfl ⟨rfl, hb1⟩
set_option maxRecDepth 100000 in
set_option maxHeartbeats 4000000 in
theorem number_ok (c : UInt8) (r : List UInt8) (pos : Int) (hl : (c :: r).length ≤ 1000) (hd : (c :: r).all digitB = true) (hb : ¬ (32767 < decV (c :: r) ∨ (1 < (c :: r).length ∧ c = 48))) (w : World) :
    Calls Tryz.prog 35 #[.string ⟨(c :: r).toArray⟩, .int .i64 pos] w (RetI (decV (c :: r)) w) := by
  rcases atoi_digits hd with ⟨h1, h2⟩ | ⟨h1, h2⟩
  · have HC := Lib.hid (atoi_ok (c :: r) hl _ h1 w)
    have hkb : ({ data := (c :: r).toArray } : ByteArray)[0]'(by show 0 < (c :: r).toArray.size; simp) = c := rfl
    obtain ⟨v, hv⟩ : ∃ v : Int, ((decV (c :: r) : Nat) : Int) = v := ⟨_, rfl⟩
    have hv1 : ¬ (32767 : Int) < v := by omega
    rw [hv] at HC ⊢
    by_cases hlen : 1 < r.length + 1
    · have hc : (((c.toNat : Nat) : Int) == 48) = false := by
        have : c.toNat ≠ 48 := fun q => hb (.inr ⟨hlen, UInt8.toNat.inj q⟩)
        simp; omega
      clear hv h1 h2 hb hd
      go_enter Tryz.func35, Tryz.ntmps35
      go_wp2_with fail
      refine HC.out.mono ?_
      rintro e w1 ⟨rfl, hb1⟩
      go_wp2
      go_ret
      exact ⟨rfl, hb1⟩
    · clear hv h1 h2 hb hd
      go_enter Tryz.func35, Tryz.ntmps35
      go_wp2_with fail
      refine HC.out.mono ?_
      rintro e w1 ⟨rfl, hb1⟩
      go_wp2
      go_ret
      exact ⟨rfl, hb1⟩
  · exact absurd (.inl h2) hb
end Go.Proofs.YtmbmngnnfkdngaaGreatDoor
