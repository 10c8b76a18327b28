/-
  The word of an operation.
-/
import Derived.Test.YtmbmngnnfkdngaaGreatDoorOps
namespace Go.Proofs.YtmbmngnnfkdngaaGreatDoor
open Go.RowKit

theorem wordInfo : (Tryz.prog.info? 106).map (·.size) = some 19 := by kernel_rfl
/-- The table of words. -/
def wordCells : List Value := opWords.map fun l => Value.string ⟨l.toArray⟩
theorem storeW_fold (p v : Value) : Instr.storeAt 106 p v = StoreS 106 p v := rfl
theorem storeW_new (w : World) (z : Array Value) (g : Nat) (hg : g = w.heap.size) (hz : z.size = 19) :
    (StoreS 106 (.pointer (some ⟨g, 0, Option.none⟩)) (.agg #[.string { data := #[110, 111, 116] }, .string { data := #[97, 110, 100] }, .string { data := #[111, 114] }, .string { data := #[120, 111, 114] }, .string { data := #[60] }, .string { data := #[62] }, .string { data := #[61] }, .string { data := #[43] }, .string { data := #[45] }, .string { data := #[109, 105, 110] }, .string { data := #[109, 97, 120] }, .string { data := #[97, 98, 115] }, .string { data := #[105, 102] }, .string { data := #[114, 105, 115, 101] }, .string { data := #[102, 97, 108, 108] }, .string { data := #[100, 101, 108, 97, 121] }, .string { data := #[104, 111, 108, 100] }, .string { data := #[108, 97, 116, 99, 104] }, .string { data := #[99, 111, 117, 110, 116] }])).run Tryz.prog (w.alloc (.cells z 106)) = .ok () (w.alloc (.cells wordCells.toArray 106)) :=
  storeS_new _ 19 wordInfo w z wordCells g hg hz ⟨rfl, by decide⟩
theorem wordCell (w : World) (k : Nat) (hk : k < 19) : (w.alloc (.cells wordCells.toArray 106)).cell? ⟨w.heap.size, k, Option.none⟩ = some (.string ⟨(opWords.getD k []).toArray⟩) := by
  have h := cell_of_row (w.alloc (.cells wordCells.toArray 106)) w.heap.size k _ _ (0, 0) (heap_alloc_new w _)
  rw [h]
  have : k < opWords.length := hk
  simp [wordCells, List.getD_eq_getElem?_getD, this]
attribute [local go_sem ↓] storeW_fold
attribute [local go_sem] storeW_new

set_option maxRecDepth 100000 in
set_option maxHeartbeats 4000000 in
theorem word_any (op : Int) (h1 : 4 ≤ op) (h2 : op ≤ 22) (w : World) : Calls Tryz.prog 53 #[.int .i64 op] w (RetStr (wordP op) w) := by
  obtain ⟨k, rfl⟩ : ∃ k : Nat, op = (k : Int) + 4 := ⟨(op - 4).toNat, by omega⟩
  have hw : wordP ((k : Int) + 4) = opWords.getD k [] := by unfold wordP; rw [if_pos ⟨by omega, by omega⟩]; congr 1; omega
  have HW := Lib.hid hw
  have hk : k < 19 := by omega
  have hc := wordCell w k hk
  have d1 : decide ((k : Int) + 4 < 4) = false := by simp; omega
  have d2 : decide ((22 : Int) < (k : Int) + 4) = false := by simp; omega
  clear hw h1 h2
  go_enter Tryz.func53, Tryz.ntmps53
  go_wp2
  go_ret
  exact ⟨by rw [HW.out]; rfl, (Below.refl _ _).alloc (Nat.le_refl _) _⟩

def OpR (w : World) (s : List UInt8) (v : Value) (wr : World) : Prop := ∃ k : Nat, k ≤ 19 ∧ v = .int .i64 ((k : Int) + 4) ∧ operationP s = opFrom s (opWords.drop k) ((k : Int) + 4) ∧ Below w.heap.size w wr
theorem opFrom_step {s x : List UInt8} {k : Nat} (hk : k < 19) (hx : wordP ((k : Int) + 4) = x) (n : Int) : opFrom s (opWords.drop k) n = if x == s then n else opFrom s (opWords.drop (k + 1)) (n + 1) := by
  have hl : k < opWords.length := hk
  have hw : wordP ((k : Int) + 4) = opWords.getD k [] := by unfold wordP; rw [if_pos ⟨by omega, by omega⟩]; congr 1; omega
  have : opWords.drop k = x :: opWords.drop (k + 1) := by
    rw [List.drop_eq_getElem_cons hl, ← hx, hw, List.getD_eq_getElem?_getD, List.getElem?_eq_getElem hl]
    rfl
  rw [this]
  rfl

set_option maxRecDepth 100000 in
set_option maxHeartbeats 4000000 in
theorem operation_any (s : List UInt8) (w : World) : Calls Tryz.prog 58 #[.string ⟨s.toArray⟩] w (RetI (operationP s) w) := by
  go_enter Tryz.func58, Tryz.ntmps58
  go_wp2
  go_loopw [3] (OpR w s) (fun i _ => (23 - intOf i).toNat)
  case atStart => exact ⟨0, by omega, rfl, rfl, Below.refl _ _⟩
  case round =>
    obtain ⟨k, hk, rfl, ho, hbel⟩ := hrel
    have hsz := hbel.size
    by_cases hlt : k < 19
    · have C := fun W => word_any ((k : Int) + 4) (by omega) (by omega) W
      obtain ⟨x, hx⟩ : ∃ x, wordP ((k : Int) + 4) = x := ⟨_, rfl⟩
      rw [hx] at C
      have hst := opFrom_step (s := s) hlt hx ((k : Int) + 4)
      rw [← ho] at hst
      have HS := Lib.hid hst
      have HC := Lib.hid C
      clear C hx ho hst
      cases hb : (x == s) with
      | true =>
        have HB := Lib.hid hb
        go_wp2_with fail
        refine (HC.out _).mono ?_
        rintro e w1 ⟨rfl, hb1⟩
        go_wp2
        go_ret
        exact ⟨ret_int (by rw [HS.out, if_pos HB.out]), hbel.trans (hb1.mono hsz)⟩
      | false =>
        have HB := Lib.hid hb
        go_wp2_with fail
        refine (HC.out _).mono ?_
        rintro e w1 ⟨rfl, hb1⟩
        have hb2 := hbel.trans (hb1.mono hsz)
        go_wp2
        go_roundw
        case rel => exact ⟨k + 1, by omega, by go_num, by rw [HS.out, if_neg (by rw [HB.out]; decide)]; congr 1, hb2⟩
        case measure => simp [intOf]; omega
    · obtain rfl : k = 19 := by omega
      have HO := Lib.hid ho
      clear ho
      go_wp2
      go_ret
      exact ⟨ret_int (by rw [HO.out]; rfl), hbel⟩
end Go.Proofs.YtmbmngnnfkdngaaGreatDoor
