/-
  Events: how they lie in memory; Good, Before and order of the program and of the reference.
-/
import Derived.Test.YtcoablindoknpaaDoorBase
import Derived.Test.YtcoablindoknpaaDoorIdx
import Derived.Test.YtcoablindoknpaaDoorRows
import Derived.IntWalk
import Derived.Deep.Light
namespace Go.Proofs.YtcoablindoknpaaDoor
open Go.RowKit

structure Ev where
  time : Int
  device : Int
  signal : Int
  value : Bool
  quality : Int
def Ev.cells (e : Ev) : List Value := [.int .i64 e.time, .int .i64 e.device, .int .i64 e.signal, .bool e.value, .int .i64 e.quality]
def EvC (_ : World) (_ : Nat) (cs : List Value) (e : Ev) : Prop := cs = e.cells
theorem EvC.mono : Mono EvC := fun _ _ _ _ _ _ _ _ h => h

theorem box_below (w : World) (o : Obj) : Below w.heap.size w (w.alloc o) := (Below.refl _ _).alloc (Nat.le_refl _) _
theorem ret_bool {a b : Bool} (h : a = b) : Ending.returned (.bool a) = .returned (.bool b) := by rw [h]

def withinB (n most : Int) : Bool := decide (0 ≤ n ∧ n ≤ most)
theorem withinB_true {n most : Int} : withinB n most = true ↔ 0 ≤ n ∧ n ≤ most := by simp [withinB]
theorem withinB_false {n most : Int} : withinB n most = false ↔ n < 0 ∨ most < n := by
  rw [← Bool.not_eq_true, withinB_true]; omega
def goodB (e : Ev) : Bool := withinB e.time 1000000000 && (withinB e.device 999 && (withinB e.signal 999 && withinB e.quality 9))

theorem within_any (n most : Int) (w : World) : Calls Tryd.prog 36 #[.int .i64 n, .int .i64 most] w fun e w' => e = .returned (.bool (withinB n most)) ∧ w = w' := by
  by_cases h0 : 0 ≤ n
  · by_cases h1 : n ≤ most
    · have e0 : withinB n most = true := withinB_true.2 ⟨h0, h1⟩
      rw [e0]
      clear e0
      go_enter Tryd.func36, Tryd.ntmps36
      go_wp2
      go_ret
      exact ⟨rfl, rfl⟩
    · have e0 : withinB n most = false := withinB_false.2 (.inr (by omega))
      rw [e0]
      clear e0
      go_enter Tryd.func36, Tryd.ntmps36
      go_wp2
      go_ret
      exact ⟨ret_bool (by simp), rfl⟩
  · have e0 : withinB n most = false := withinB_false.2 (.inl (by omega))
    rw [e0]
    clear e0
    go_enter Tryd.func36, Tryd.ntmps36
    go_wp2
    go_ret
    exact ⟨ret_bool (by simp), rfl⟩

set_option maxHeartbeats 1000000 in
theorem good_any (e : Ev) (w : World) : Calls Tryd.prog 17 #[.agg e.cells.toArray] w (RetBool (goodB e) w) := by
  unfold Ev.cells goodB
  generalize h1 : withinB e.time 1000000000 = b1
  generalize h2 : withinB e.device 999 = b2
  generalize h3 : withinB e.signal 999 = b3
  generalize h4 : withinB e.quality 9 = b4
  have C1 := fun W => within_any e.time 1000000000 W
  have C2 := fun W => within_any e.device 999 W
  have C3 := fun W => within_any e.signal 999 W
  have C4 := fun W => within_any e.quality 9 W
  rw [h1] at C1
  rw [h2] at C2
  rw [h3] at C3
  rw [h4] at C4
  have H1 := Lib.hid C1
  have H2 := Lib.hid C2
  have H3 := Lib.hid C3
  have H4 := Lib.hid C4
  clear h1 h2 h3 h4 C1 C2 C3 C4
  cases b1
  · go_enter Tryd.func17, Tryd.ntmps17
    go_wp2_with fail
    refine (H1.out _).mono ?_
    rintro e w' ⟨rfl, rfl⟩
    go_wp2
    go_ret
    exact ⟨rfl, box_below _ _⟩
  cases b2
  · go_enter Tryd.func17, Tryd.ntmps17
    go_wp2_with fail
    refine (H1.out _).mono ?_
    rintro e w' ⟨rfl, rfl⟩
    go_wp2_with fail
    refine (H2.out _).mono ?_
    rintro e w' ⟨rfl, rfl⟩
    go_wp2
    go_ret
    exact ⟨rfl, box_below _ _⟩
  cases b3
  · go_enter Tryd.func17, Tryd.ntmps17
    go_wp2_with fail
    refine (H1.out _).mono ?_
    rintro e w' ⟨rfl, rfl⟩
    go_wp2_with fail
    refine (H2.out _).mono ?_
    rintro e w' ⟨rfl, rfl⟩
    go_wp2_with fail
    refine (H3.out _).mono ?_
    rintro e w' ⟨rfl, rfl⟩
    go_wp2
    go_ret
    exact ⟨rfl, box_below _ _⟩
  · go_enter Tryd.func17, Tryd.ntmps17
    go_wp2_with fail
    refine (H1.out _).mono ?_
    rintro e w' ⟨rfl, rfl⟩
    go_wp2_with fail
    refine (H2.out _).mono ?_
    rintro e w' ⟨rfl, rfl⟩
    go_wp2_with fail
    refine (H3.out _).mono ?_
    rintro e w' ⟨rfl, rfl⟩
    go_wp2_with fail
    refine (H4.out _).mono ?_
    rintro e w' ⟨rfl, rfl⟩
    go_wp2
    go_ret
    exact ⟨rfl, box_below _ _⟩

set_option maxHeartbeats 1000000 in
theorem rgood_any (e : Ev) (w : World) : Calls Tryd.prog 18 #[.agg e.cells.toArray] w (RetBool (goodB e) w) := by
  unfold Ev.cells
  go_enter Tryd.func18, Tryd.ntmps18
  go_wp2
  all_goals (go_ret; exact ⟨ret_bool (by rw [Bool.eq_iff_iff]; simp [goodB, withinB]; omega), box_below _ _⟩)

/-- The result of the first pair that differs. -/
def fd : List (Int × Int) → Int
  | [] => 0
  | p :: ps => if p.1 < p.2 then -1 else if p.2 < p.1 then 1 else fd ps
def PairC (_ : World) (_ : Nat) (cs : List Value) (p : Int × Int) : Prop := cs = [.int .i64 p.1, .int .i64 p.2]
theorem fd_drop {ps : List (Int × Int)} {k : Nat} {p : Int × Int} (h : ps[k]? = some p) : fd (ps.drop k) = if p.1 < p.2 then -1 else if p.2 < p.1 then 1 else fd (ps.drop (k + 1)) := by
  have hk := (List.getElem?_eq_some_iff.1 h).1
  rw [List.drop_eq_getElem_cons hk]
  have : ps[k] = p := (List.getElem?_eq_some_iff.1 h).2
  rw [this]; rfl

set_option maxHeartbeats 1000000 in
theorem diff_any (A : Option Addr) (c B : Nat) (ps : List (Int × Int)) (w : World) (hr : Rws PairC 2 w B A ps.length ps) (hn : ps.length ≤ 1000) :
    Calls Tryd.prog 49 #[.slice A (2 * ps.length) c] w (RetInt (fd ps) w) := by
  go_enter Tryd.func49, Tryd.ntmps49
  go_wp2
  go_loopw [3] (fun i wr => ∃ k : Nat, k ≤ ps.length ∧ i = .int .i64 (2 * (k : Int)) ∧ fd ps = fd (ps.drop k) ∧ ∃ d, wr = w.drewN d) (fun i _ => 2 * ps.length + 2 - (intOf i).toNat)
  case atStart => exact ⟨0, Nat.zero_le _, rfl, rfl, 0, rfl⟩
  case round =>
    obtain ⟨k, hk, rfl, hfd, d, rfl⟩ := hrel
    have HF := Lib.hid hfd
    clear hfd
    by_cases hlt : k < ps.length
    · obtain ⟨b, o, ds, p, rfl, -, hx, -, rfl, hat⟩ := hr.at_ hlt
      have g0 : w.cell? ⟨b, o + 2 * k, Option.none⟩ = some (.int .i64 p.1) := by have := hat 0 _ rfl; rwa [Nat.add_zero, Nat.mul_comm] at this
      have g1 : w.cell? ⟨b, o + (2 * k + 1), Option.none⟩ = some (.int .i64 p.2) := by have := hat 1 _ rfl; rwa [Nat.mul_comm, Nat.add_assoc] at this
      have hf := fd_drop hx
      have HX := Lib.hid hf
      have hk0 : (0 : Int) ≤ 2 * (k : Int) := by omega
      have hk1 : 2 * (k : Int) < 2 * (ps.length : Int) := by omega
      have hk2 : (0 : Int) ≤ 2 * (k : Int) + 1 := by omega
      have hk3 : 2 * (k : Int) + 1 < 2 * (ps.length : Int) := by omega
      have n1 : (2 * (k : Int)).toNat = 2 * k := by omega
      have n2 : (2 * (k : Int) + 1).toNat = 2 * k + 1 := by omega
      have n3 : IntKind.i64.wrap (2 * (k : Int) + 1) = 2 * (k : Int) + 1 := IntWalk.i64_in _ (by omega)
      have N1 := Lib.hid n1
      have N2 := Lib.hid n2
      have N3 := Lib.hid n3
      clear hx hat hr hf n1 n2 n3
      go_wp2
      have n1 := N1.out
      have n2 := N2.out
      have n3 := N3.out
      go_quiet (fail)
      clear n1 n2 n3
      by_cases hp : p.1 < p.2
      · go_wp2
        go_ret
        exact ⟨ret_int (by rw [HF.out, HX.out, if_pos hp]), by repeat (first | exact Below.refl _ _ | refine below_drewN ?_ _)⟩
      · go_wp2
        have n1 := N1.out
        have n2 := N2.out
        have n3 := N3.out
        go_quiet (fail)
        clear n1 n2 n3
        by_cases hq : p.2 < p.1
        · go_wp2
          go_ret
          exact ⟨ret_int (by rw [HF.out, HX.out, if_neg (by omega), if_pos hq]), by repeat (first | exact Below.refl _ _ | refine below_drewN ?_ _)⟩
        · go_wp2
          go_roundw
          case rel => exact ⟨k + 1, by omega, by go_num, by rw [HF.out, HX.out, if_neg (by omega), if_neg (by omega)], _, rfl⟩
          case measure => simp [intOf]; omega
    · go_wp2
      go_ret
      obtain rfl : k = ps.length := by omega
      exact ⟨ret_int (by rw [HF.out, List.drop_length]; rfl), by repeat (first | exact Below.refl _ _ | refine below_drewN ?_ _)⟩

def ordE (a b : Ev) : Int := fd [(a.time, b.time), (a.device, b.device), (a.signal, b.signal)]
def beforeB (a b : Ev) : Bool := decide (ordE a b < 0)

theorem rws_lit {α : Type} {R : World → Nat → List Value → α → Prop} {size : Nat} (w : World) (t : TypeId) (cs : Array Value) (xs : List α) (f : α → List Value) (hcs : cs.toList = xs.flatMap f) (hf : ∀ x ∈ xs, (f x).length = size)
    (hR : ∀ w B x, x ∈ xs → R w B (f x) x) (hm : xs.length ≤ maxLen) : Rws R size (w.alloc (.cells cs t)) (w.heap.size + 1) (some ⟨w.heap.size, 0, Option.none⟩) xs.length xs := by
  have hs : cs.size = xs.length * size := by
    rw [← Array.length_toList, hcs]
    clear hcs hR hm
    induction xs with
    | nil => simp
    | cons x xs ih =>
      rw [List.flatMap_cons, List.length_append, hf x (by simp), ih fun y hy => hf y (by simp [hy]), List.length_cons, Nat.succ_mul]; omega
  have h1 := World.ownsRow_lit (base := w.heap.size) (e := t) (size := size) w cs xs.length (Nat.le_refl _) hm hs
  rw [hcs] at h1
  have := Rws.of_own (R := R) h1 rfl hf (fun x hx => hR _ _ x hx)
  simpa using this

set_option maxHeartbeats 1000000 in
theorem order_any (a b : Ev) (w : World) : Calls Tryd.prog 37 #[.agg a.cells.toArray, .agg b.cells.toArray] w (RetInt (ordE a b) w) := by
  unfold Ev.cells
  go_enter Tryd.func37, Tryd.ntmps37
  go_wp2_with fail
  have hr := rws_lit (R := PairC) (size := 2) ((w.alloc (Obj.cells #[.int .i64 a.time, .int .i64 a.device, .int .i64 a.signal, .bool a.value, .int .i64 a.quality] 26)).alloc (Obj.cells #[.int .i64 b.time, .int .i64 b.device, .int .i64 b.signal, .bool b.value, .int .i64 b.quality] 26)) 3 #[.int .i64 a.time, .int .i64 b.time, .int .i64 a.device, .int .i64 b.device, .int .i64 a.signal, .int .i64 b.signal] [(a.time, b.time), (a.device, b.device), (a.signal, b.signal)] (fun p => [.int .i64 p.1, .int .i64 p.2]) rfl (fun _ _ => rfl) (fun _ _ _ _ => rfl) (by simp [maxLen])
  have C := diff_any _ 6 _ _ _ hr (by simp)
  simp only [World.size_alloc, List.length_cons, List.length_nil] at C
  refine C.mono ?_
  rintro e w2 ⟨rfl, hb2⟩
  go_wp2
  go_ret
  exact ⟨rfl, (((box_below _ _).alloc (by simp) _).alloc (by simp; omega) _).trans (hb2.mono (by simp; omega))⟩

theorem before_any (a b : Ev) (w : World) : Calls Tryd.prog 19 #[.agg a.cells.toArray, .agg b.cells.toArray] w (RetBool (beforeB a b) w) := by
  have C := fun W => order_any a b W
  unfold Ev.cells at C ⊢
  have HC := Lib.hid C
  clear C
  go_enter Tryd.func19, Tryd.ntmps19
  go_wp2_with fail
  refine (HC.out _).mono ?_
  rintro e w2 ⟨rfl, hb2⟩
  go_wp2
  go_ret
  exact ⟨rfl, ((box_below _ _).alloc (by simp) _).trans (hb2.mono (by simp; omega))⟩

theorem before_iff (a b : Ev) : beforeB a b = true ↔ a.time < b.time ∨ (a.time = b.time ∧ (a.device < b.device ∨ (a.device = b.device ∧ a.signal < b.signal))) := by
  unfold beforeB
  rw [decide_eq_true_eq]
  unfold ordE
  simp only [fd]
  repeat (split)
  all_goals omega
theorem ret_before {a b : Ev} {x : Bool} (h : x = true ↔ a.time < b.time ∨ (a.time = b.time ∧ (a.device < b.device ∨ (a.device = b.device ∧ a.signal < b.signal)))) : Ending.returned (.bool x) = .returned (.bool (beforeB a b)) := by
  rw [Bool.eq_iff_iff.2 (h.trans (before_iff a b).symm)]
set_option maxHeartbeats 1000000 in
theorem rbefore_any (a b : Ev) (w : World) : Calls Tryd.prog 20 #[.agg a.cells.toArray, .agg b.cells.toArray] w (RetBool (beforeB a b) w) := by
  unfold Ev.cells
  go_enter Tryd.func20, Tryd.ntmps20
  go_wp2
  all_goals (go_ret; exact ⟨ret_before (by go_light; simp_all <;> omega), (box_below _ _).alloc (by simp) _⟩)
end Go.Proofs.YtcoablindoknpaaDoor
