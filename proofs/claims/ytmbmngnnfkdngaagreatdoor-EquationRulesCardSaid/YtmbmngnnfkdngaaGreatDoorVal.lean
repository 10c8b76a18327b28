/-
  The validity of an expression: node, valid and Valid of the program.
-/
import Derived.Test.YtmbmngnnfkdngaaGreatDoorToks
import Derived.Deep.QuietTactic
import Derived.BigQuiet
namespace Go.Proofs.YtmbmngnnfkdngaaGreatDoor
open Go.RowKit

def RetB (b : Bool) (w : World) (e : Ending) (w' : World) : Prop := e = .returned (.bool b) ∧ Below w.heap.size w w'
theorem quiet_is {P : Program} {f : FuncId} {args : Array Value} {w : World} {k : Nat} {n : Int} (h : Calls P f args (w.drewN k) (RetIs n (w.drewN k))) : Calls P f args (w.drewN k) fun e w'' => e = .returned (.int .i64 n) ∧ ∃ m, w'' = w.drewN m := h.mono fun _ _ ⟨a, b⟩ => ⟨a, k, b.symm⟩
theorem nodeB_len {op n : Int} {nm : List UInt8} {k : Nat} (h : ¬ (k : Int) = arityP op) : nodeB op n nm k = false := by
  unfold nodeB
  simp [h]
theorem nodeB_name {n : Int} {nm : List UInt8} {k : Nat} (h : (k : Int) = arityP 3) : nodeB 3 n nm k = (decide (n = 0) && nameB nm) := by
  unfold nodeB
  simp [h]
theorem nodeB_plain {op n : Int} {nm : List UInt8} {k : Nat} (h : (k : Int) = arityP op) (h3 : op ≠ 3) : nodeB op n nm k = (nm.isEmpty && decide (0 ≤ n ∧ n ≤ mostP op)) := by
  unfold nodeB
  simp [h, h3]

set_option maxRecDepth 100000 in
set_option maxHeartbeats 4000000 in
theorem node_any (op n : Int) (nm : List UInt8) (A : Option Addr) (k c : Nat) (w : World) (hp : ExP op n nm) : Calls Tryz.prog 61 #[exV op n nm A k c] w (RetB (nodeB op n nm k) w) := by
  have C1 := fun W => arity_any op W
  have C2 := fun W => name_any nm W hp.2.2
  have hbx := box_below w (Obj.cells #[.int .i64 op, .int .i64 n, .string ⟨nm.toArray⟩, .slice A k c] 25)
  have HBX := Lib.hid (below_drewN hbx 1)
  have X := XV.new w op n nm A k c
  obtain ⟨x0, x1, x2, x3, -, -, -, -⟩ := X.cells
  clear hp hbx X
  unfold exV
  by_cases hk : (k : Int) = arityP op
  case neg =>
    have HN := Lib.hid (nodeB_len (n := n) (nm := nm) hk)
    have d1 : ((k : Int) != arityP op) = true := by simp [hk]
    have HC1 := Lib.hid C1
    clear hk C1 C2
    generalize arityP op = ar at *
    go_enter Tryz.func61, Tryz.ntmps61
    go_wp2
    go_quiet ((go_at_call 77; exact quiet_is (HC1.out _)))
    go_wp2
    go_ret
    exact ⟨ret_bool HN.out.symm, below_drewN (box_below w _) _⟩
  have d1 : ((k : Int) != arityP op) = false := by simp [hk]
  by_cases h3 : op = 3
  · subst h3
    have HN := Lib.hid (nodeB_name (n := n) (nm := nm) hk)
    have HC1 := Lib.hid C1
    clear hk C1
    generalize arityP 3 = ar at *
    generalize nameB nm = nb at *
    have HC2 := Lib.hid C2
    clear C2
    by_cases h0 : n = 0
    · subst h0
      go_enter Tryz.func61, Tryz.ntmps61
      go_wp2
      go_quiet ((go_at_call 77; exact quiet_is (HC1.out _)))
      go_wp2_with fail
      refine (HC2.out _).mono ?_
      rintro e w9 ⟨rfl, rfl⟩
      go_wp2
      go_ret
      exact ⟨ret_bool (by rw [HN.out]; simp), below_drewN (box_below w _) _⟩
    · have d2 : (n == 0) = false := by simp [h0]
      have HN2 := Lib.hid (show nodeB 3 n nm k = false by rw [HN.out]; simp [h0])
      clear h0
      go_enter Tryz.func61, Tryz.ntmps61
      go_wp2
      go_quiet ((go_at_call 77; exact quiet_is (HC1.out _)))
      go_wp2
      go_ret
      exact ⟨ret_bool HN2.out.symm, below_drewN (box_below w _) _⟩
  have hpl := nodeB_plain (n := n) (nm := nm) hk h3
  have d3 : (op == 3) = false := by simp [h3]
  have HC1 := Lib.hid C1
  clear hk C1 C2
  obtain ⟨mo, hmo⟩ : ∃ mo, mostP op = mo := ⟨_, rfl⟩
  rw [hmo] at hpl
  have hcase : (op = 1 ∧ mo = 1) ∨ (op = 2 ∧ mo = 32767) ∨ (op = 19 ∧ mo = 500) ∨ (op = 20 ∧ mo = 500) ∨ (op ≠ 1 ∧ op ≠ 2 ∧ op ≠ 19 ∧ op ≠ 20 ∧ mo = 0) := by
    unfold mostP at hmo
    split at hmo
    · omega
    split at hmo
    · omega
    split at hmo
    · omega
    · omega
  clear hmo
  have hres : (nm.isEmpty = false ∧ nodeB op n nm k = false) ∨ (nm.isEmpty = true ∧ decide (0 ≤ n) = false ∧ nodeB op n nm k = false) ∨ (nm.isEmpty = true ∧ decide (0 ≤ n) = true ∧ decide (n ≤ mo) = false ∧ nodeB op n nm k = false) ∨ (nm.isEmpty = true ∧ decide (0 ≤ n) = true ∧ decide (n ≤ mo) = true ∧ nodeB op n nm k = true) := by
    rw [hpl]
    cases nm.isEmpty
    · exact .inl ⟨rfl, rfl⟩
    · by_cases h1 : 0 ≤ n
      · by_cases h2 : n ≤ mo
        · exact .inr (.inr (.inr ⟨rfl, by simp [h1], by simp [h2], by simp [h1, h2]⟩))
        · exact .inr (.inr (.inl ⟨rfl, by simp [h1], by simp [h2], by simp [h2]⟩))
      · exact .inr (.inl ⟨rfl, by simp [h1], by simp [h1]⟩)
  clear hpl
  generalize arityP op = ar at *
  obtain ⟨res, hrs⟩ : ∃ res, nodeB op n nm k = res := ⟨_, rfl⟩
  rw [hrs] at hres ⊢
  clear hrs h3
  rcases hcase with ⟨rfl, rfl⟩ | ⟨rfl, rfl⟩ | ⟨rfl, rfl⟩ | ⟨rfl, rfl⟩ | ⟨o1, o2, o3, o4, rfl⟩
  case' inr.inr.inr.inr =>
    have e1 : (op == 1) = false := by simp [o1]
    have e2 : (op == 2) = false := by simp [o2]
    have e3 : (op == 19) = false := by simp [o3]
    have e4 : (op == 20) = false := by simp [o4]
    clear o1 o2 o3 o4
  all_goals
    rcases hres with ⟨r1, rfl⟩ | ⟨r1, r2, rfl⟩ | ⟨r1, r2, r3, rfl⟩ | ⟨r1, r2, r3, rfl⟩
    all_goals
      go_enter Tryz.func61, Tryz.ntmps61
      go_wp2
      go_quiet ((go_at_call 77; exact quiet_is (HC1.out _)))
      go_wp2
      go_ret
      exact ⟨rfl, below_drewN (box_below w _) _⟩
end Go.Proofs.YtmbmngnnfkdngaaGreatDoor
