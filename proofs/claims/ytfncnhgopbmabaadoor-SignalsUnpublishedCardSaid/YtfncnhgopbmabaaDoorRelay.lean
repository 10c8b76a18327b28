/-
  How a relay lies in memory (its name, kind, rules, data sets, publications and subscriptions), and what 'Large' of a relay tells.
-/
import Derived.Test.YtfncnhgopbmabaaDoorBase
import Derived.Test.YtfncnhgopbmabaaDoorRows
namespace Go.Proofs.YtfncnhgopbmabaaDoor
open Go.RowKit

structure SubM where
  loc : ByteArray
  device : ByteArray
  set : ByteArray
  signal : ByteArray

structure RelayM where
  name : ByteArray
  kind : Int
  rules : List (ByteArray × ByteArray)
  sets : List (ByteArray × List ByteArray)
  pubs : List ByteArray
  subs : List SubM

def RuleC (_ : World) (_ : Nat) (cs : List Value) (r : ByteArray × ByteArray) : Prop := cs = [.string r.1, .string r.2] ∧ r.1.size ≤ maxLen ∧ r.2.size ≤ maxLen
theorem RuleC.mono : Mono RuleC := fun _ _ _ _ _ _ _ _ h => h
def SetC (w : World) (B : Nat) (cs : List Value) (d : ByteArray × List ByteArray) : Prop := ∃ c, cs = [.string d.1, c] ∧ d.1.size ≤ maxLen ∧ SliceOf StrC 1 w B [c] d.2
theorem SetC.mono : Mono SetC := fun _ _ _ _ _ _ hB hb ⟨c, e, hs, h⟩ => ⟨c, e, hs, SliceOf.mono StrC.mono 1 _ _ _ _ _ _ hB hb h⟩
def PubC (_ : World) (_ : Nat) (cs : List Value) (s : ByteArray) : Prop := ∃ a b : Int, cs = [.string s, .int .i64 a, .int .i64 b] ∧ s.size ≤ maxLen
theorem PubC.mono : Mono PubC := fun _ _ _ _ _ _ _ _ h => h
def SubC (_ : World) (_ : Nat) (cs : List Value) (s : SubM) : Prop := cs = [.string s.loc, .string s.device, .string s.set, .string s.signal] ∧ s.loc.size ≤ maxLen ∧ s.device.size ≤ maxLen ∧ s.set.size ≤ maxLen ∧ s.signal.size ≤ maxLen
theorem SubC.mono : Mono SubC := fun _ _ _ _ _ _ _ _ h => h
structure RelayC (w : World) (B : Nat) (cs : List Value) (r : RelayM) : Prop where
  len : cs.length = 53
  one : ∀ v ∈ cs, v.oneCell' = true
  name : cs[0]? = some (.string r.name)
  nameLen : r.name.size ≤ maxLen
  kind : cs[1]? = some (.int .i64 r.kind)
  rules : ∃ c, cs[49]? = some c ∧ SliceOf RuleC 2 w B [c] r.rules
  sets : ∃ c, cs[50]? = some c ∧ SliceOf SetC 2 w B [c] r.sets
  pubs : ∃ c, cs[51]? = some c ∧ SliceOf PubC 3 w B [c] r.pubs
  subs : ∃ c, cs[52]? = some c ∧ SliceOf SubC 4 w B [c] r.subs
theorem RelayC.mono : Mono RelayC := by
  intro w w' B B' cs x hB hb h
  obtain ⟨c1, e1, s1⟩ := h.rules
  obtain ⟨c2, e2, s2⟩ := h.sets
  obtain ⟨c3, e3, s3⟩ := h.pubs
  obtain ⟨c4, e4, s4⟩ := h.subs
  exact ⟨h.len, h.one, h.name, h.nameLen, h.kind, ⟨c1, e1, SliceOf.mono RuleC.mono _ _ _ _ _ _ _ hB hb s1⟩, ⟨c2, e2, SliceOf.mono SetC.mono _ _ _ _ _ _ _ hB hb s2⟩,
    ⟨c3, e3, SliceOf.mono PubC.mono _ _ _ _ _ _ _ hB hb s3⟩, ⟨c4, e4, SliceOf.mono SubC.mono _ _ _ _ _ _ _ hB hb s4⟩⟩

/-- What 'Large' answers no to. -/
structure RelayM.Small (r : RelayM) : Prop where
  rules : r.rules.length ≤ 20
  sets : r.sets.length ≤ 8
  pubs : r.pubs.length ≤ 8
  subs : r.subs.length ≤ 30
  signals : ∀ d ∈ r.sets, d.2.length ≤ 30

/-- It returned some bool, of which 'no' says P; old memory is as it was. -/
def NoSays (P : Prop) (w : World) (e : Ending) (w' : World) : Prop := ∃ b : Bool, (b = false → P) ∧ e = .returned (.bool b) ∧ Below w.heap.size w w'

theorem box_below (w : World) (o : Obj) : Below w.heap.size w (w.alloc o) := (Below.refl _ _).alloc (Nat.le_refl _) _

theorem small_snoc {α : Type} {p : α → Prop} {xs : List α} {k : Nat} {x : α} (h : ∀ j y, j < k → xs[j]? = some y → p y) (hx : xs[k]? = some x) (hp : p x) : ∀ j y, j < k + 1 → xs[j]? = some y → p y := by
  intro j y hj hy
  rcases Nat.lt_succ_iff_lt_or_eq.1 hj with h' | rfl
  · exact h j y h' hy
  · rw [hx] at hy; cases hy; exact hp
theorem all_of_lt {α : Type} {p : α → Prop} {xs : List α} (h : ∀ j y, j < xs.length → xs[j]? = some y → p y) : ∀ y ∈ xs, p y := by
  intro y hy
  obtain ⟨j, hj⟩ := List.getElem?_of_mem hy
  exact h j y ((List.getElem?_eq_some_iff.1 hj).1) hj

set_option maxRecDepth 100000 in
set_option maxHeartbeats 1000000 in
theorem large_any (cs : List Value) (r : RelayM) (B : Nat) (w : World) (hB : B ≤ w.heap.size) (h : RelayC w B cs r) :
    Calls Tryd.prog 10 #[.agg cs.toArray] w (NoSays r.Small w) := by
  obtain ⟨c49, h49, A1, k1, e1, l1, m1, R1⟩ := h.rules
  obtain ⟨c50, h50, A2, k2, e2, l2, m2, R2⟩ := h.sets
  obtain ⟨c51, h51, A3, k3, e3, l3, m3, R3⟩ := h.pubs
  obtain ⟨c52, h52, A4, k4, e4, l4, m4, R4⟩ := h.subs
  cases e1; cases e2; cases e3; cases e4
  clear h
  unfold maxLen at m1 m2
  have T : ∀ w', Below w.heap.size w w' → NoSays r.Small w (.returned (.bool true)) w' := fun w' hb => ⟨true, (fun h => absurd h (by decide)), rfl, hb⟩
  by_cases b1 : r.rules.length ≤ 20
  case neg =>
    have b1 : (20 : Int) < (r.rules.length : Int) := by omega
    go_enter Tryd.func10, Tryd.ntmps10
    go_wp2
    go_ret
    exact T _ (box_below _ _)
  by_cases b2 : r.sets.length ≤ 8
  case neg =>
    have b2 : (8 : Int) < (r.sets.length : Int) := by omega
    go_enter Tryd.func10, Tryd.ntmps10
    go_wp2
    go_ret
    exact T _ (box_below _ _)
  by_cases b3 : r.pubs.length ≤ 8
  case neg =>
    have b3 : (8 : Int) < (r.pubs.length : Int) := by omega
    go_enter Tryd.func10, Tryd.ntmps10
    go_wp2
    go_ret
    exact T _ (box_below _ _)
  by_cases b4 : r.subs.length ≤ 30
  case neg =>
    have b4 : (30 : Int) < (r.subs.length : Int) := by omega
    go_enter Tryd.func10, Tryd.ntmps10
    go_wp2
    go_ret
    exact T _ (box_below _ _)
  go_enter Tryd.func10, Tryd.ntmps10
  go_wp2
  go_loop [3] (fun i => ∃ k : Nat, k ≤ r.sets.length ∧ i = .int .i64 k ∧ ∀ j y, j < k → r.sets[j]? = some y → y.2.length ≤ 30) (fun i => r.sets.length - (intOf i).toNat)
  case atStart => exact ⟨0, Nat.zero_le _, rfl, fun j y h => absurd h (Nat.not_lt_zero _)⟩
  case round =>
    obtain ⟨k, hk, rfl, hall⟩ := hrel
    have Hall := Lib.hid hall
    clear hall
    by_cases hlt : k < r.sets.length
    · obtain ⟨b, o, ds, x, rfl, hbB, hx, -, ⟨c, rfl, -, A5, k5, e5, l5, m5, R5⟩, hat⟩ := R2.at_ hlt
      cases e5
      have hc0 := hat 1 _ rfl
      have hb' : b < w.heap.size := by omega
      have HX := Lib.hid hx
      clear hx R2 R1 R3 R4 R5 hat
      by_cases b5 : x.2.length ≤ 30
      · go_wp2
        go_round
        case rel => exact ⟨k + 1, by omega, by go_num, small_snoc Hall.out HX.out b5⟩
        case measure => simp [intOf]; omega
      · have b5' : (30 : Int) < (x.2.length : Int) := by omega
        go_wp2
        go_ret
        exact T _ (box_below _ _)
    · have hse : k = r.sets.length := by omega
      have HS : Hid (∀ d ∈ r.sets, d.2.length ≤ 30) := by
        rw [hse] at Hall
        exact all_of_lt Hall.out
      clear hse Hall R2 R3 R4
      go_wp2
      go_loop [4] (fun i => ∃ k : Nat, k ≤ r.rules.length ∧ i = .int .i64 k) (fun i => r.rules.length - (intOf i).toNat)
      case atStart => exact ⟨0, Nat.zero_le _, rfl⟩
      case round =>
        obtain ⟨m, hm, rfl⟩ := hrel
        by_cases hlt : m < r.rules.length
        · obtain ⟨b, o, ds, x, rfl, hbB, -, -, ⟨rfl, -, -⟩, hat⟩ := R1.at_ hlt
          have hc0 := hat 1 _ rfl
          have hb' : b < w.heap.size := by omega
          clear R1 hat
          by_cases b5 : x.2.size ≤ 200
          · go_wp2
            go_round
            case rel => exact ⟨m + 1, by omega, by go_num⟩
            case measure => simp [intOf]; omega
          · have b5' : (200 : Int) < (x.2.size : Int) := by omega
            go_wp2
            go_ret
            exact T _ (box_below _ _)
        · go_wp2
          go_ret
          exact ⟨false, fun _ => ⟨b1, b2, b3, b4, HS.out⟩, rfl, box_below _ _⟩
end Go.Proofs.YtfncnhgopbmabaaDoor
