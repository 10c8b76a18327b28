/-
  Merge of the reference, over any list of lists of events: insertion, one event after the other.
-/
import Derived.Test.YtcoablindoknpaaDoorKeepP
namespace Go.Proofs.YtcoablindoknpaaDoor
open Go.RowKit

def insAll (S l : List Ev) : List Ev := l.foldl insE S
theorem insAll_len (S l : List Ev) : (insAll S l).length = S.length + l.length := by
  induction l generalizing S with
  | nil => rfl
  | cons e l ih => unfold insAll at *; rw [List.foldl_cons, ih, insE_len, List.length_cons]; omega
theorem insAll_append (S l r : List Ev) : insAll S (l ++ r) = insAll (insAll S l) r := by simp [insAll]
theorem insAll_one (S : List Ev) (e : Ev) : insAll S [e] = insE S e := rfl
theorem take_snoc {α : Type} {l : List α} {k : Nat} {x : α} (h : l[k]? = some x) : l.take (k + 1) = l.take k ++ [x] := by rw [List.take_add_one, h]; rfl
theorem own_nil0 {w : World} {base : Nat} {e : TypeId} {size n m c : Nat} {A : Option Addr} {xs : List Value} (h : w.ownsRow base e size (.slice A m c) n xs) : A = Option.none → c = 0 := by
  rintro rfl
  rcases h.2 with ⟨he, -⟩ | ⟨g, cap, cur, he, -⟩
  · injection he
  · injection he with h1; cases h1

/-- The row v holds es; all memory of w is as it was. -/
def OwnE (w : World) (es : List Ev) (v : Value) (wr : World) : Prop := wr.ownsRow w.heap.size 26 5 v es.length (evCells es) ∧ Below w.heap.size w wr
def MgO (w : World) (xss : List (List Ev)) (v i : Value) (wr : World) : Prop := ∃ k : Nat, k ≤ xss.length ∧ i = .int .i64 k ∧ OwnE w (insAll [] (xss.take k).flatten) v wr
def MgI (w : World) (S x : List Ev) (v i : Value) (wr : World) : Prop := ∃ k : Nat, k ≤ x.length ∧ i = .int .i64 k ∧ OwnE w (insAll S (x.take k)) v wr

theorem Rws.sliceAt {B n : Nat} {w : World} {A : Option Addr} {xss : List (List Ev)} (h : Rws (SliceOf EvC 5) 1 w B A n xss) {k : Nat} (hk : k < n) :
    ∃ b o x A1 c1, A = some ⟨b, o, Option.none⟩ ∧ b < B ∧ xss[k]? = some x ∧ x.length ≤ c1 ∧ c1 ≤ maxLen ∧ Rws EvC 5 w B A1 x.length x ∧ w.cell? ⟨b, o + k, Option.none⟩ = some (.slice A1 x.length c1) := by
  obtain ⟨b, o, cs, x, e, hlt, hx, _, ⟨A1, c1, rfl, h1, h2, h3⟩, hat⟩ := h.at_ hk
  exact ⟨b, o, x, A1, c1, e, hlt, hx, h1, h2, h3, by simpa using hat 0 _ rfl⟩

theorem flat_take {α : Type} (xss : List (List α)) (k : Nat) : (xss.take k).flatten.length ≤ xss.flatten.length := by
  have := congrArg List.length (congrArg List.flatten (List.take_append_drop k xss))
  rw [List.flatten_append, List.length_append] at this
  omega

set_option maxRecDepth 100000 in
set_option maxHeartbeats 4000000 in
theorem rmerge_any (A : Option Addr) (c B : Nat) (xss : List (List Ev)) (w : World) (hB : B ≤ w.heap.size) (hr : Rws (SliceOf EvC 5) 1 w B A xss.length xss) (hn : xss.length ≤ 1000) (hlen : xss.flatten.length ≤ 1000) :
    Calls Tryd.prog 23 #[.slice A xss.length c] w (RetRow 26 5 (insAll [] xss.flatten).length (evCells (insAll [] xss.flatten)) w) := by
  go_enter Tryd.func23, Tryd.ntmps23
  go_wp2
  go_loopw [3, 10] (MgO w xss) (fun _ i _ => xss.length - (intOf i).toNat)
  case atStart => exact ⟨0, Nat.zero_le _, rfl, World.ownsRow_nil _ _ _ _, Below.refl _ _⟩
  case round =>
    obtain ⟨k, hk, rfl, hown, hbel⟩ := hrel
    have HO := Lib.hid hown
    clear hown
    have hsz := hbel.size
    by_cases hlt : k < xss.length
    · obtain ⟨b, o, x, A1, c1, rfl, hbB, hx, hc1, hm1, hr1, hcell0⟩ := hr.sliceAt hlt
      have hcell := (hbel.cell (p := ⟨b, o + k, Option.none⟩) (Nat.lt_of_lt_of_le hbB hB)).trans hcell0
      have ht := take_snoc hx
      have htl := flat_take xss (k + 1)
      have hfl : (xss.take (k + 1)).flatten = (xss.take k).flatten ++ x := by rw [ht]; simp
      rw [hfl, List.length_append] at htl
      have HF := Lib.hid hfl
      have hSl : (insAll [] (xss.take k).flatten).length = (xss.take k).flatten.length := by rw [insAll_len]; simp
      have hin : insAll [] (xss.take (k + 1)).flatten = insAll (insAll [] (xss.take k).flatten) x := by rw [HF.out, insAll_append]
      generalize insAll [] (xss.take k).flatten = S at *
      have HI := Lib.hid hin
      have HR := Lib.hid hr1
      have hSx : S.length + x.length ≤ 1000 := by omega
      clear hx ht hfl hin hr1 HF hSl htl
      unfold maxLen at hm1
      go_wp2
      go_loopw [3, 16] (MgI w S x) (fun _ i _ => x.length - (intOf i).toNat)
      case atStart => exact ⟨0, Nat.zero_le _, rfl, HO.out, hbel⟩
      case round =>
        obtain ⟨j, hj, rfl, hown2, hbel2⟩ := hrel
        have hsz2 := hbel2.size
        have hSj := insAll_len S (x.take j)
        rw [List.length_take] at hSj
        have hSle : (insAll S (x.take j)).length ≤ 1000 := by omega
        clear hSj
        by_cases hltj : j < x.length
        · obtain ⟨b1, o1, e, rfl, hb1, he, E0⟩ := evAt HR.out hltj
          obtain ⟨q0, q1, q2, q3, q4⟩ := E0.below (hbel2.mono hB) hb1
          have hin2 : insAll S (x.take (j + 1)) = insE (insAll S (x.take j)) e := by rw [take_snoc he, insAll_append, insAll_one]
          have hbx := box_below wr (Obj.cells #[.int .i64 e.time, .int .i64 e.device, .int .i64 e.signal, .bool e.value, .int .i64 e.quality] 26)
          have EX := EB.new wr e 26
          generalize insAll S (x.take j) = S2 at *
          obtain ⟨A2, c2, rfl, hc2, hm2⟩ := own_shape hown2
          have C := rinsert_any A2 c2 wr.heap.size S2 e _ hbx.size ((rws_of_ev hown2 rfl).mono EvC.mono (Nat.le_refl _) hbx) hc2 (own_nil0 hown2) hSle
          unfold Ev.cells at C
          have HC := Lib.hid C
          have HI2 := Lib.hid hin2
          have HL2 := Lib.hid (insE_len S2 e)
          clear C hown2 hin2 E0 he
          go_wp2_with fail
          refine HC.out.mono ?_
          rintro e' w3 ⟨A3, c3, rfl, hc3, hm3, hown3, hbel3⟩
          have hbx3 := hbel2.trans ((hbx.trans (hbel3.mono hbx.size)).mono hsz2)
          clear q0 q1 q2 q3 q4 EX
          go_wp2
          go_roundw
          case rel => exact ⟨j + 1, by omega, by go_num, by rw [HI2.out, HL2.out]; exact own_base hown3 (Nat.le_trans hsz2 hbx.size), hbx3⟩
          case measure => simp [intOf]; omega
        · obtain rfl : j = x.length := by omega
          rw [List.take_length] at hown2
          have HO2 := Lib.hid hown2
          clear hown2
          go_wp2
          go_roundw
          case rel => exact ⟨k + 1, by omega, by go_num, by rw [HI.out]; exact HO2.out, hbel2⟩
          case measure => simp [intOf]; omega
    · obtain rfl : k = xss.length := by omega
      rw [List.take_length] at HO
      go_wp2
      go_ret
      exact RetRow.mk HO.out (Nat.le_refl _) hbel
end Go.Proofs.YtcoablindoknpaaDoor
