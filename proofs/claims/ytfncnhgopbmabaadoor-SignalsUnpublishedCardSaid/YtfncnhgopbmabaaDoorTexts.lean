/-
  The names of signals: what the program's Fixed, Outputs, Inputs and the reference's return, for any kind and any relay.
-/
import Derived.Test.YtfncnhgopbmabaaDoorRelay
import Derived.Test.YtfncnhgopbmabaaDoorShelf
namespace Go.Proofs.YtfncnhgopbmabaaDoor
open Go.RowKit

theorem infoStr : (Tryd.prog.info? 9).map (fun i => (i.zero, i.size, i.bytes)) = some (some (.string ⟨#[]⟩), 1, 16) := by kernel_rfl

def bs (l : List UInt8) : ByteArray := ⟨l.toArray⟩
def tripN (i : Nat) : ByteArray := bs ([116, 114, 105, 112] ++ Lib.decDigits i)
def fixedLine : List ByteArray := [bs [116, 114, 105, 112], bs [99, 108, 111, 115, 101], bs [102, 97, 105, 108], bs [115, 101, 110, 100], bs [116, 114, 97, 110, 115, 102, 101, 114], bs [122, 111, 110, 101, 49], bs [122, 111, 110, 101, 50], bs [122, 111, 110, 101, 51], bs [116, 105, 109, 101], bs [115, 116, 97, 114, 116, 101, 100]]
def fixedSrc : List ByteArray := [bs [116, 114, 105, 112], bs [99, 108, 111, 115, 101], bs [102, 97, 105, 108], bs [116, 105, 109, 101], bs [115, 116, 97, 114, 116, 101, 100], bs [117, 110, 100, 101, 114], bs [111, 118, 101, 114]]
def fixedBus : List ByteArray := (List.range 16).map tripN
def fixedL (k : Int) : List ByteArray := if k = 1 then fixedLine else if k = 2 ∨ k = 3 then fixedSrc else if k = 4 then fixedBus else []

theorem fixedL_len (k : Int) : (fixedL k).length ≤ 16 := by
  unfold fixedL; split
  · decide
  · split
    · decide
    · split
      · simp [fixedBus]
      · simp

theorem own_lit {w : World} {t : TypeId} (cs : List Value) (hm : cs.length ≤ maxLen) :
    (w.alloc (.cells cs.toArray t)).ownsRow w.heap.size t 1 (.slice (some ⟨w.heap.size, 0, Option.none⟩) cs.length cs.length) cs.length cs := by
  have := World.ownsRow_lit (base := w.heap.size) (e := t) (size := 1) w cs.toArray cs.length (Nat.le_refl _) hm (by simp)
  simpa using this

theorem digs : ∀ k : Nat, k < 16 → (Lib.decDigits k).length ≤ 2 := by decide +kernel
theorem range_snoc {α : Type} (f : Nat → α) (k : Nat) : (List.range (k + 1)).map f = (List.range k).map f ++ [f k] := by
  rw [List.range_succ, List.map_append]; rfl

def tripCells (n : Nat) : List Value := ((List.range n).map tripN).map .string
theorem tripCells_succ (n : Nat) : tripCells (n + 1) = tripCells n ++ [.string (tripN n)] := by unfold tripCells; rw [range_snoc, List.map_append]; rfl

set_option maxRecDepth 100000 in
set_option maxHeartbeats 1000000 in
theorem fixed_any (k : Int) (w : World) :
    Calls Tryd.prog 12 #[.int .i64 k] w (RetRow 9 1 (fixedL k).length ((fixedL k).map .string) w) := by
  by_cases h1 : k = 1
  · subst h1
    go_enter Tryd.func12, Tryd.ntmps12
    go_wp2
    go_ret
    exact RetRow.mk (own_lit (fixedLine.map .string) (by decide)) (Nat.le_refl _) (box_below _ _)
  by_cases h2 : k = 2
  · subst h2
    go_enter Tryd.func12, Tryd.ntmps12
    go_wp2
    go_ret
    exact RetRow.mk (own_lit (fixedSrc.map .string) (by decide)) (Nat.le_refl _) (box_below _ _)
  by_cases h3 : k = 3
  · subst h3
    go_enter Tryd.func12, Tryd.ntmps12
    go_wp2
    go_ret
    exact RetRow.mk (own_lit (fixedSrc.map .string) (by decide)) (Nat.le_refl _) (box_below _ _)
  have b1 : (k == 1) = false := by simpa using h1
  have b2 : (k == 2) = false := by simpa using h2
  have b3 : (k == 3) = false := by simpa using h3
  by_cases h4 : k = 4
  · subst h4
    clear h1 h2 h3 b1 b2 b3
    obtain ⟨i0, hi, hz0, hz1, hz2⟩ := info_parts infoStr
    go_enter Tryd.func12, Tryd.ntmps12
    go_wp2
    go_loopw [3, 15] (Building 9 1 w.heap.size w 16 (fun k => k) tripCells) (fun _ i _ => 16 - (intOf i).toNat)
    case atStart => exact ⟨0, Nat.zero_le _, rfl, World.ownsRow_nil _ _ _ _, Below.refl _ _⟩
    case round =>
      obtain ⟨k, hk, rfl, hown, hbel⟩ := hrel
      dsimp only at hown
      by_cases hlt : k < 16
      · have hsz := hbel.size
        have hdig := digs k hlt
        have HO := Lib.hid hown
        clear hown
        go_wp2_with (first
          | (go_at_call 27; refine (Tryd.strconv_Itoa_small k (by omega) _).mono ?_; rintro e w' ⟨rfl, rfl⟩)
          | (at_builtin; refine wpList_push _ _ 38 rfl rfl Tryd.underlying38 hi hz0 hz1 hz2 rfl (by decide) rfl HO.out hbel _ rfl rfl rfl (by simp [Value.oneCell']) (by omega) (by unfold maxLen; omega) hsz ?_; intro v' w' hown' hbel' _))
        go_roundw
        case rel => exact ⟨k + 1, by omega, by go_num, by dsimp only; rw [tripCells_succ]; exact hown', hbel'⟩
        case measure => simp [intOf]; omega
      · go_wp2
        go_ret
        obtain rfl : k = 16 := by omega
        exact RetRow.mk (n := 16) hown (Nat.le_refl _) hbel
  · have b4 : (k == 4) = false := by simpa using h4
    have he : fixedL k = [] := by simp [fixedL, h1, h2, h3, h4]
    rw [he]
    clear he
    go_enter Tryd.func12, Tryd.ntmps12
    go_wp2
    go_ret
    exact RetRow.mk (World.ownsRow_nil _ w.heap.size _ _) (Nat.le_refl _) (Below.refl _ _)

theorem byte_of (m : Nat) (h : m < 256) (n : Int) (hn : n = (m : Int)) : n = ((UInt8.ofNat m).toNat : Int) := by
  rw [hn, UInt8.toNat_ofNat']; omega
theorem trip_low : ∀ k : Nat, k < 10 → tripN k = bs [116, 114, 105, 112, UInt8.ofNat (48 + k)] := by decide +kernel
theorem trip_high : ∀ k : Nat, k < 6 → tripN (10 + k) = bs [116, 114, 105, 112, 49, UInt8.ofNat (48 + k)] := by decide +kernel

set_option maxRecDepth 100000 in
set_option maxHeartbeats 1000000 in
theorem rfixed_any (k : Int) (w : World) :
    Calls Tryd.prog 13 #[.int .i64 k] w (RetRow 9 1 (fixedL k).length ((fixedL k).map .string) w) := by
  by_cases h1 : k = 1
  · subst h1
    go_enter Tryd.func13, Tryd.ntmps13
    go_wp2
    go_ret
    exact RetRow.mk (own_lit (fixedLine.map .string) (by decide)) (Nat.le_refl _) (box_below _ _)
  by_cases h2 : k = 2
  · subst h2
    go_enter Tryd.func13, Tryd.ntmps13
    go_wp2
    go_ret
    exact RetRow.mk (own_lit (fixedSrc.map .string) (by decide)) (Nat.le_refl _) (box_below _ _)
  by_cases h3 : k = 3
  · subst h3
    go_enter Tryd.func13, Tryd.ntmps13
    go_wp2
    go_ret
    exact RetRow.mk (own_lit (fixedSrc.map .string) (by decide)) (Nat.le_refl _) (box_below _ _)
  have b1 : (k == 1) = false := by simpa using h1
  have b2 : (k == 2) = false := by simpa using h2
  have b3 : (k == 3) = false := by simpa using h3
  by_cases h4 : k = 4
  · subst h4
    clear h1 h2 h3 b1 b2 b3
    obtain ⟨i0, hi, hz0, hz1, hz2⟩ := info_parts infoStr
    go_enter Tryd.func13, Tryd.ntmps13
    go_wp2
    go_loopw [3, 4] (Building 9 1 w.heap.size w 10 (fun k => k) tripCells) (fun _ i _ => 10 - (intOf i).toNat)
    case atStart => exact ⟨0, Nat.zero_le _, rfl, World.ownsRow_nil _ _ _ _, Below.refl _ _⟩
    case round =>
      obtain ⟨k, hk, rfl, hown, hbel⟩ := hrel
      dsimp only at hown
      by_cases hlt : k < 10
      · have hsz := hbel.size
        have HO := Lib.hid hown
        obtain ⟨c, hc, hcn⟩ : ∃ c : UInt8, c = UInt8.ofNat (48 + k) ∧ (48 + (k : Int)) = (c.toNat : Int) := ⟨_, rfl, byte_of _ (by omega) _ (by omega)⟩
        have HC := Lib.hid hc
        have hcv := conv_byte (P := Tryd.prog) 78 9 5 Tryd.underlying78 Tryd.underlying5 Tryd.underlying9 c (48 + (k : Int)) hcn wr
        clear hc hcn
        clear hown
        go_wp2_with (first
          | (at_builtin; refine wpList_push _ _ 38 rfl rfl Tryd.underlying38 hi hz0 hz1 hz2 rfl (by decide) rfl (HO.out.alloc _) (hbel.alloc hsz _) (wr.heap.size + 1) (by simp) rfl rfl (by simp [Value.oneCell']) (by omega) (by unfold maxLen; omega) (by simp; omega) ?_; intro v' w' hown' hbel' _))
        go_roundw
        case rel => exact ⟨k + 1, by omega, by go_num, by dsimp only; rw [tripCells_succ, trip_low k hlt, ← HC.out]; exact hown', hbel'⟩
        case measure => simp [intOf]; omega
      · obtain rfl : k = 10 := by omega
        clear hlt hk
        go_wp2
        go_loopw [3, 5] (Building 9 1 w.heap.size w 6 (fun k => 10 + k) (fun k => tripCells (10 + k))) (fun _ i _ => 6 - (intOf i).toNat)
        case atStart => exact ⟨0, Nat.zero_le _, rfl, hown, hbel⟩
        case round =>
          clear hown hbel
          obtain ⟨k, hk, rfl, hown, hbel⟩ := hrel
          dsimp only at hown
          by_cases hlt : k < 6
          · have hsz := hbel.size
            have HO := Lib.hid hown
            obtain ⟨c, hc, hcn⟩ : ∃ c : UInt8, c = UInt8.ofNat (48 + k) ∧ (48 + (k : Int)) = (c.toNat : Int) := ⟨_, rfl, byte_of _ (by omega) _ (by omega)⟩
            have HC := Lib.hid hc
            have hcv := conv_byte (P := Tryd.prog) 78 9 5 Tryd.underlying78 Tryd.underlying5 Tryd.underlying9 c (48 + (k : Int)) hcn wr
            clear hc hcn
            clear hown
            go_wp2_with (first
              | (at_builtin; refine wpList_push _ _ 38 rfl rfl Tryd.underlying38 hi hz0 hz1 hz2 rfl (by decide) rfl (HO.out.alloc _) (hbel.alloc hsz _) (wr.heap.size + 1) (by simp) rfl rfl (by simp [Value.oneCell']) (by omega) (by unfold maxLen; omega) (by simp; omega) ?_; intro v' w' hown' hbel' _))
            go_roundw
            case rel => exact ⟨k + 1, by omega, by go_num, by dsimp only; rw [show 10 + (k + 1) = (10 + k) + 1 from rfl, tripCells_succ, trip_high k hlt, ← HC.out]; exact hown', hbel'⟩
            case measure => simp [intOf]; omega
          · obtain rfl : k = 6 := by omega
            go_wp2
            go_ret
            exact RetRow.mk (n := 16) hown (Nat.le_refl _) hbel
  · have b4 : (k == 4) = false := by simpa using h4
    have he : fixedL k = [] := by simp [fixedL, h1, h2, h3, h4]
    rw [he]
    clear he
    go_enter Tryd.func13, Tryd.ntmps13
    go_wp2
    go_ret
    exact RetRow.mk (World.ownsRow_nil _ w.heap.size _ _) (Nat.le_refl _) (Below.refl _ _)
end Go.Proofs.YtfncnhgopbmabaaDoor
