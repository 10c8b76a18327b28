/-
  Names that occur twice; the first error of a row of tests: plain words, and what 'repeated' of the program and 'twice' of the reference return.
-/
import Derived.Test.YtfncnhgopbmabaaDoorSeek
import Derived.Test.YtfncnhgopbmabaaDoorDevices
namespace Go.Proofs.YtfncnhgopbmabaaDoor
open Go.RowKit

/-- Is s among the first k? -/
def seen (xs : List ByteArray) (k : Nat) (s : ByteArray) : Bool := (xs.take k).any fun y => same y s
def dupAt (xs : List ByteArray) (k : Nat) : Bool := match xs[k]? with
  | some x => seen xs k x
  | Option.none => false
def dupB (xs : List ByteArray) : Bool := (List.range xs.length).any (dupAt xs)
def NoDup (xs : List ByteArray) (k : Nat) : Prop := ∀ j, j < k → dupAt xs j = false
theorem noDup_zero (xs : List ByteArray) : NoDup xs 0 := fun _ h => absurd h (Nat.not_lt_zero _)
theorem noDup_succ {xs : List ByteArray} {k : Nat} {x : ByteArray} (h : NoDup xs k) (hx : xs[k]? = some x) (hs : seen xs k x = false) : NoDup xs (k + 1) := by
  intro j hj
  rcases Nat.lt_succ_iff_lt_or_eq.1 hj with h' | rfl
  · exact h j h'
  · simp [dupAt, hx, hs]
theorem dup_yes {xs : List ByteArray} {k : Nat} {x : ByteArray} (hx : xs[k]? = some x) (hs : seen xs k x = true) : dupB xs = true := by
  have hk : k < xs.length := (List.getElem?_eq_some_iff.1 hx).1
  unfold dupB
  rw [List.any_eq_true]
  exact ⟨k, by simpa using hk, by simp [dupAt, hx, hs]⟩
theorem dup_no {xs : List ByteArray} (h : NoDup xs xs.length) : dupB xs = false := by
  unfold dupB
  rw [List.any_eq_false]
  intro j hj
  rw [h j (by simpa using hj)]
  simp
/-- The map of what has been seen. -/
def seenF (xs : List ByteArray) (k : Nat) (s : ByteArray) : Option Value := if seen xs k s then some (.bool true) else Option.none
theorem seenF_zero (xs : List ByteArray) : seenF xs 0 = fun _ => Option.none := by funext s; simp [seenF, seen]
theorem seen_succ {xs : List ByteArray} {k : Nat} {x : ByteArray} (hx : xs[k]? = some x) (s : ByteArray) : seen xs (k + 1) s = (seen xs k s || same x s) := by
  unfold seen
  rw [List.take_add_one, hx]
  simp
theorem seenF_succ {xs : List ByteArray} {k : Nat} {x : ByteArray} (hx : xs[k]? = some x) : seenF xs (k + 1) = putS (seenF xs k) x (.bool true) := by
  funext s
  unfold seenF putS
  rw [seen_succ hx]
  by_cases hs : s.toList = x.toList
  · have : same x s = true := same_iff.2 hs.symm
    simp [hs, this]
  · have : same x s = false := by
      cases h' : same x s with
      | false => rfl
      | true => exact absurd (same_iff.1 h').symm hs
    simp [hs, this]
theorem seenF_get (xs : List ByteArray) (k : Nat) (s : ByteArray) : (seenF xs k s).getD (.bool false) = .bool (seen xs k s) := by
  unfold seenF; cases seen xs k s <;> rfl
theorem seen_idx (xs : List ByteArray) (k : Nat) (s : ByteArray) : seen xs k s = decide (0 ≤ idx (fun r => same r s) (xs.take k)) := by
  unfold seen
  rcases idx_cases (fun r => same r s) (xs.take k) with ⟨h, h'⟩ | ⟨j, x, h, hx, hp, _⟩
  · rw [h]
    have : ((xs.take k).any fun y => same y s) = false := by
      rw [List.any_eq_false]; intro y hy; simp [h' y hy]
    rw [this]; rfl
  · rw [h]
    have : ((xs.take k).any fun y => same y s) = true := List.any_eq_true.2 ⟨x, List.mem_of_getElem? hx, hp⟩
    rw [this]; simp

/-- The first number that is not zero, of the first n. -/
def firstNZ (f : Nat → Int) : Nat → Int
  | 0 => 0
  | n + 1 => if firstNZ f n = 0 then f n else firstNZ f n
def AllZero (f : Nat → Int) (k : Nat) : Prop := ∀ j, j < k → f j = 0
theorem allZero_zero (f : Nat → Int) : AllZero f 0 := fun _ h => absurd h (Nat.not_lt_zero _)
theorem allZero_succ {f : Nat → Int} {k : Nat} (h : AllZero f k) (hk : f k = 0) : AllZero f (k + 1) := by
  intro j hj
  rcases Nat.lt_succ_iff_lt_or_eq.1 hj with h' | rfl
  · exact h j h'
  · exact hk
theorem firstNZ_zero {f : Nat → Int} : ∀ {n : Nat}, AllZero f n → firstNZ f n = 0
  | 0, _ => rfl
  | n + 1, h => by
    have := firstNZ_zero (f := f) (n := n) fun j hj => h j (by omega)
    simp [firstNZ, this, h n (by omega)]
theorem firstNZ_found {f : Nat → Int} {k : Nat} (h : AllZero f k) (hk : f k ≠ 0) : ∀ {n : Nat}, k < n → firstNZ f n = f k
  | 0, hn => absurd hn (Nat.not_lt_zero _)
  | n + 1, hn => by
    rcases Nat.lt_succ_iff_lt_or_eq.1 hn with h' | rfl
    · have := firstNZ_found h hk h'
      simp [firstNZ, this, hk]
    · simp [firstNZ, firstNZ_zero h]

theorem ret_bool {a b : Bool} (h : a = b) : Ending.returned (.bool a) = .returned (.bool b) := by rw [h]
theorem zeroBool (w : World) : (zeroValue 4).run Tryd.prog w = .ok (.bool false) w := by kernel_rfl
/-- The loop's relation: the map of what has been seen lies in block b. -/
def Rep (b : Nat) (W1 : World) (xs : List ByteArray) (i : Value) (wr : World) : Prop :=
  ∃ k : Nat, k ≤ xs.length ∧ i = .int .i64 k ∧ NoDup xs k ∧ MapS Tryd.prog 9 4 wr b k (seenF xs k) ∧ Below b W1 wr

set_option maxRecDepth 100000 in
set_option maxHeartbeats 2000000 in
theorem repeated_any (A : Option Addr) (c B : Nat) (xs : List ByteArray) (w : World) (hB : B ≤ w.heap.size) (hr : Rws StrC 1 w B A xs.length xs) (hn : xs.length ≤ 100000) :
    Calls Tryd.prog 47 #[.slice A xs.length c] w (RetBool (dupB xs) w) := by
  have hmm := @run_makeMap Tryd.prog
  go_enter Tryd.func47, Tryd.ntmps47
  go_wp2
  clear hmm
  go_loopw [9] (Rep w.heap.size w xs) (fun i _ => xs.length - (intOf i).toNat)
  case atStart => exact ⟨0, Nat.zero_le _, rfl, noDup_zero _, by rw [seenF_zero]; exact MapS.made Tryd.prog 9 4 w, (Below.refl _ _).alloc (Nat.le_refl _) _⟩
  case round =>
    obtain ⟨k, hk, rfl, hno, hmap, hbel⟩ := hrel
    have HN := Lib.hid hno
    clear hno
    by_cases hlt : k < xs.length
    · obtain ⟨b, o, x, rfl, hb, hx, hs, hc⟩ := hr.strAt hlt
      have hc' : wr.cell? ⟨b, o + k, Option.none⟩ = some (.string x) := (hbel.cell (p := ⟨b, o + k, Option.none⟩) (by show b < w.heap.size; omega)).trans hc
      have HX := Lib.hid hx
      have hlk := hmap.look (t := 100) Tryd.underlying9 Tryd.underlying100 (zeroBool _) hs false
      rw [seenF_get] at hlk
      clear hx hc hr
      cases hse : seen xs k x with
      | true =>
        rw [hse] at hlk
        simp only [Bool.false_eq_true, if_false] at hlk
        have HS := Lib.hid hse
        clear hse hmap
        go_wp2
        go_ret
        exact ⟨ret_bool (dup_yes HX.out HS.out).symm, hbel⟩
      | false =>
        rw [hse] at hlk
        simp only [Bool.false_eq_true, if_false] at hlk
        obtain ⟨w', hup, hm', hg⟩ := hmap.store (t := 100) Tryd.underlying9 Tryd.underlying100 (by unfold maxLen; omega) hs (plainElem_bool Tryd.underlying4 true)
        have HS := Lib.hid hse
        have HM := Lib.hid hm'
        have HB := Lib.hid (hbel.grown hg (by have := hmap.block; omega) (fun j hj => by cases hj; exact Nat.le_refl _))
        clear hse hmap hm' hg
        go_wp2
        go_roundw
        case rel => exact ⟨k + 1, by omega, by go_num, noDup_succ HN.out HX.out HS.out, by rw [seenF_succ HX.out]; exact HM.out, HB.out⟩
        case measure => simp [intOf]; omega
    · go_wp2
      go_ret
      obtain rfl : k = xs.length := by omega
      exact ⟨ret_bool (dup_no HN.out).symm, hbel⟩

theorem quiet_add_left {P : Program} {f : FuncId} {args : Array Value} {w : World} {a n : Nat} {v : Value}
    (h : Calls P f args (w.drewN (a + n)) fun e w' => e = .returned v ∧ w.drewN (a + n) = w') :
    Calls P f args (w.drewN (a + n)) fun e w'' => e = .returned v ∧ ∃ m, w'' = w.drewN (a + m) :=
  h.mono fun _ _ ⟨he, hm⟩ => ⟨he, n, hm.symm⟩
/-- Two lists one behind the other: the first k of the first are the first k of both. -/
theorem rws_take {α : Type} {R : World → Nat → List Value → α → Prop} {size B n : Nat} {w : World} {A : Option Addr} {xs : List α} (h : Rws R size w B A n xs) (k : Nat) (hk : k ≤ n) : Rws R size w B A k (xs.take k) := by
  refine ⟨by rw [List.length_take, h.1]; omega, fun hpos => ?_⟩
  obtain ⟨b, o, e, hb, hr⟩ := h.2 (by omega)
  refine ⟨b, o, e, hb, fun j x hx => hr j x ?_⟩
  rw [List.getElem?_take] at hx
  split at hx
  · exact hx
  · cases hx

set_option maxRecDepth 100000 in
set_option maxHeartbeats 2000000 in
theorem twice_any (A : Option Addr) (c B : Nat) (xs : List ByteArray) (w : World) (hr : Rws StrC 1 w B A xs.length xs) (hc : xs.length ≤ c) (hm : c ≤ maxLen) :
    Calls Tryd.prog 49 #[.slice A xs.length c] w fun e w' => e = .returned (.bool (dupB xs)) ∧ ∃ d, w' = w.drewN d := by
  unfold maxLen at hm
  go_enter Tryd.func49, Tryd.ntmps49
  go_wp2
  go_loopw [3] (fun i wr => ∃ k : Nat, k ≤ xs.length ∧ i = .int .i64 k ∧ NoDup xs k ∧ ∃ d, wr = w.drewN d) (fun i _ => xs.length - (intOf i).toNat)
  case atStart => exact ⟨0, Nat.zero_le _, rfl, noDup_zero _, 0, rfl⟩
  case round =>
    obtain ⟨k, hk, rfl, hno, d, rfl⟩ := hrel
    have HN := Lib.hid hno
    clear hno
    by_cases hlt : k < xs.length
    · obtain ⟨b, o, x, rfl, hb, hx, hs, hcl⟩ := hr.strAt hlt
      have HX := Lib.hid hx
      have hl : (xs.take k).length = k := by rw [List.length_take]; omega
      have C := fun W (hW : Rws StrC 1 W B (some ⟨b, o, Option.none⟩) (xs.take k).length (xs.take k)) => rindex_any (some ⟨b, o, Option.none⟩) c B (xs.take k) x W hW (by omega)
      have R := rws_take hr k hk
      rw [hl] at C
      have hsi := seen_idx xs k x
      generalize idx (fun r => same r x) (xs.take k) = iv at *
      have HC := Lib.hid C
      have HR := Lib.hid R
      have HI := Lib.hid hsi
      have hk0 : (0 : Int) ≤ (k : Int) := by omega
      have hkn : (k : Int) < (xs.length : Int) := by omega
      have hkc : (k : Int) ≤ (c : Int) := by omega
      clear hx C R hl hr hsi
      go_wp2
      go_quiet ((go_at_call 25; exact quiet_add_left (HC.out _ HR.out)))
      cases hse : seen xs k x with
      | true =>
        have h0 : 0 ≤ iv := by have := HI.out; rw [hse] at this; simpa using this.symm
        have HS := Lib.hid hse
        clear hse
        go_wp2
        go_ret
        exact ⟨ret_bool (dup_yes HX.out HS.out).symm, _, World.drewN_drewN _ _ _⟩
      | false =>
        have h0 : iv < 0 := by have := HI.out; rw [hse] at this; simpa using this.symm
        have HS := Lib.hid hse
        clear hse
        go_wp2
        go_roundw
        case rel => exact ⟨k + 1, by omega, by go_num, noDup_succ HN.out HX.out HS.out, _, rfl⟩
        case measure => simp [intOf]; omega
    · go_wp2
      go_ret
      obtain rfl : k = xs.length := by omega
      exact ⟨ret_bool (dup_no HN.out).symm, d, rfl⟩

set_option maxRecDepth 100000 in
/-- slices.Clone of a []string. -/
theorem clone_any (A : Option Addr) (c n : Nat) (cells : List Value) (w : World) (hs : Src w 1 A n cells) (hA : A = Option.none → n = 0) (h1 : ∀ u ∈ cells, u.oneCell' = true) (hn : n ≤ 100000) :
    Calls Tryd.prog 48 #[.slice A n c] w (RetRow 9 1 n cells w) := by
  obtain ⟨i0, hi, hz0, hz1, hz2⟩ := info_parts infoStr
  have hnil := fun wx => Lib.run_eql_slice_nil (P := Tryd.prog) wx 38 9 A n c 0 0 Tryd.underlying38
  cases A with
  | none =>
    obtain rfl := hA rfl
    have hc : cells = [] := List.eq_nil_of_length_eq_zero (by simpa using hs.1)
    subst hc
    go_enter Tryd.func48, Tryd.ntmps48
    go_wp2
    go_ret
    exact RetRow.mk (World.ownsRow_nil _ w.heap.size _ _) (Nat.le_refl _) (Below.refl _ _)
  | some ad =>
    have hs2 : Src (w.alloc (Obj.cells #[] 9)) 1 (some ad) n cells := ⟨hs.1, fun hpos => by
      obtain ⟨ad', e, hcell⟩ := hs.2 hpos
      exact ⟨ad', e, fun j u hu => by rw [World.cell?_alloc_lt w _ _ (block_lt_of_cell (hcell j u hu))]; exact hcell j u hu⟩⟩
    have hown : (w.alloc (Obj.cells #[] 9)).ownsRow w.heap.size 9 1 (.slice (some ⟨w.heap.size, 0, Option.none⟩) 0 0) 0 [] := World.ownsRow_made w #[] 0 (Nat.le_refl _) (Nat.zero_le _) rfl
    have hb := box_below w (Obj.cells #[] 9)
    have HS := Lib.hid hs2
    have HO := Lib.hid hown
    clear hs hs2 hown hA
    go_enter Tryd.func48, Tryd.ntmps48
    go_wp2_with (first
      | (at_builtin; refine wpList_append_src _ _ 38 rfl rfl Tryd.underlying38 hi hz0 hz1 hz2 rfl (by decide) rfl HO.out hb rfl HS.out h1 (by unfold maxLen; omega) (by omega) (by simp) ?_; intro v' w' hown' hbel' _))
    go_ret
    exact RetRow.mk (by simpa using hown') (Nat.le_refl _) hbel'
end Go.Proofs.YtfncnhgopbmabaaDoor
