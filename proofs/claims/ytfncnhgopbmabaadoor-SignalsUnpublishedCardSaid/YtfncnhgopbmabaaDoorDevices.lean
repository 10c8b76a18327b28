/-
  The table of devices: 'devices' and 'lookup' of the program.
-/
import Derived.Test.YtfncnhgopbmabaaDoorFindL
import Derived.Test.YtfncnhgopbmabaaDoorMaps
namespace Go.Proofs.YtfncnhgopbmabaaDoor
open Go.RowKit

attribute [local go_sem ↓] loadRelay_fold storeRelay_fold
attribute [local go_sem] loadRelay_row storeRelay_new

/-- What the table holds behind k rounds: under each name the index of the first relay that has it. -/
def devF (rs : List RelayM) (k : Nat) (s : ByteArray) : Option Value := ((rs.take k).findIdx? fun r => same r.name s).map fun (i : Nat) => Value.int .i64 (i : Int)
theorem same_comm (a b : ByteArray) : same a b = same b a := by unfold same; exact BEq.comm
theorem devF_zero (rs : List RelayM) : devF rs 0 = fun _ => Option.none := by funext s; simp [devF]
theorem devF_succ (rs : List RelayM) (k : Nat) (x : RelayM) (hx : rs[k]? = some x) (s : ByteArray) : devF rs (k + 1) s = match devF rs k s with
    | some v => some v
    | Option.none => if same x.name s then some (.int .i64 (k : Int)) else Option.none := by
  have hk : k < rs.length := (List.getElem?_eq_some_iff.1 hx).1
  have ht : rs.take (k + 1) = rs.take k ++ [x] := by rw [List.take_add_one, hx]; rfl
  unfold devF
  rw [ht, List.findIdx?_append]
  cases h : (rs.take k).findIdx? fun r => same r.name s with
  | some i => simp
  | none =>
    simp only [Option.none_or, List.length_take]
    cases hs : same x.name s with
    | true => simp [List.findIdx?_cons, hs, Nat.min_eq_left (Nat.le_of_lt hk)]
    | false => simp [List.findIdx?_cons, hs]
theorem same_iff {a b : ByteArray} : same a b = true ↔ a.toList = b.toList := by unfold same; simp
theorem devF_known {rs : List RelayM} {k : Nat} {x : RelayM} (hx : rs[k]? = some x) {v : Value} (h : devF rs k x.name = some v) : devF rs (k + 1) = devF rs k := by
  funext s
  rw [devF_succ rs k x hx]
  cases hd : devF rs k s with
  | some u => rfl
  | none =>
    cases hs : same x.name s with
    | false => simp
    | true =>
      have e : (fun r : RelayM => same r.name s) = fun r => same r.name x.name := by
        funext r; unfold same; rw [same_iff.1 hs]
      exfalso
      unfold devF at hd h
      rw [e] at hd
      rw [hd] at h
      cases h
theorem devF_new {rs : List RelayM} {k : Nat} {x : RelayM} (hx : rs[k]? = some x) (h : devF rs k x.name = Option.none) : devF rs (k + 1) = putS (devF rs k) x.name (.int .i64 (k : Int)) := by
  funext s
  rw [devF_succ rs k x hx]
  unfold putS
  by_cases hs : s.toList = x.name.toList
  · rw [if_pos hs]
    have e : (fun r : RelayM => same r.name s) = fun r => same r.name x.name := by
      funext r; unfold same; rw [hs]
    have hd : devF rs k s = Option.none := by unfold devF at h ⊢; rw [e]; exact h
    rw [hd]
    simp [same_iff.2 hs.symm]
  · rw [if_neg hs]
    cases hd : devF rs k s with
    | some u => rfl
    | none =>
      have : same x.name s = false := by
        cases h' : same x.name s with
        | false => rfl
        | true => exact absurd (same_iff.1 h').symm hs
      simp [this]
theorem devF_val {rs : List RelayM} {k : Nat} {s : ByteArray} {v : Value} (h : devF rs k s = some v) : ∃ i : Nat, v = .int .i64 (i : Int) ∧ i < k := by
  unfold devF at h
  obtain ⟨i, hi, rfl⟩ := Option.map_eq_some_iff.1 h
  refine ⟨i, rfl, ?_⟩
  rw [List.findIdx?_eq_some_iff_getElem] at hi
  obtain ⟨hl, _⟩ := hi
  simp at hl; omega
theorem devF_all (rs : List RelayM) (s : ByteArray) : devF rs rs.length s = if idx (fun r => same r.name s) rs < 0 then Option.none else some (.int .i64 (idx (fun r => same r.name s) rs)) := by
  unfold devF idx
  rw [List.take_length]
  cases h : rs.findIdx? fun r => same r.name s with
  | none => simp
  | some i => simp

/-- The loop's relation. -/
def Dev (P : Program) (g : Nat) (W1 : World) (rs : List RelayM) (i : Value) (wr : World) : Prop :=
  ∃ k : Nat, k ≤ rs.length ∧ i = .int .i64 k ∧ MapS P 9 3 wr (g + 1) k (devF rs k) ∧ Below (g + 1) W1 wr
theorem zeroInt (w : World) : (zeroValue 3).run Tryd.prog w = .ok (.int .i64 0) w := by kernel_rfl
/-- A map is returned that holds the index of each device; old memory is as it was. -/
def RetDev (rs : List RelayM) (w : World) (e : Ending) (w' : World) : Prop := ∃ b, e = .returned (.map (some b)) ∧ w.heap.size ≤ b ∧ MapS Tryd.prog 9 3 w' b rs.length (devF rs rs.length) ∧ Below w.heap.size w w'

set_option maxRecDepth 100000 in
set_option maxHeartbeats 4000000 in
theorem devices_any (a0 a1 a2 a3 a4 : Value) (A : Option Addr) (c B : Nat) (rs : List RelayM) (w : World) (hB : B ≤ w.heap.size) (h : Conf w B a0 a1 a2 a3 a4 A c rs) (hn : rs.length ≤ 20) :
    Calls Tryd.prog 38 #[.agg #[a0, a1, a2, a3, a4, .slice A rs.length c]] w (RetDev rs w) := by
  have hbox := box_below w (Obj.cells #[a0, a1, a2, a3, a4, .slice A rs.length c] 49)
  have hr := h.rows
  clear h
  have hmm := @run_makeMap Tryd.prog
  go_enter Tryd.func38, Tryd.ntmps38
  go_wp2
  clear hmm
  go_loopw [12] (Dev Tryd.prog w.heap.size (w.alloc (Obj.cells #[a0, a1, a2, a3, a4, .slice A rs.length c] 49)) rs) (fun i _ => rs.length - (intOf i).toNat)
  case atStart => exact ⟨0, Nat.zero_le _, rfl, by rw [devF_zero]; simpa using MapS.made Tryd.prog 9 3 (w.alloc (Obj.cells #[a0, a1, a2, a3, a4, .slice A rs.length c] 49)), (Below.refl _ _).alloc (by simp) _⟩
  case round =>
    obtain ⟨k, hk, rfl, hmap, hbel⟩ := hrel
    have hbw : Below w.heap.size w wr := hbox.trans (hbel.mono (by omega))
    have hs := hmap.block
    by_cases hlt : k < rs.length
    · obtain ⟨b, o, cs, x, rfl, hbB, hx, hR, hbx, hrow, -⟩ := relayAt (hr.mono RelayC.mono (Nat.le_refl _) (hbw.mono hB)) hlt
      have hnm := hR.name
      have HX := Lib.hid hx
      have hml := hmap.alloc (Obj.cells cs.toArray 34)
      have hlk := hml.look (t := 88) Tryd.underlying9 Tryd.underlying88 (zeroInt _) hR.nameLen true
      have hlen := hR.nameLen
      clear hx hr hR
      cases hd : devF rs k x.name with
      | some v =>
        rw [hd] at hlk
        simp only [if_true, Option.getD_some, Option.isSome_some] at hlk
        have HD := Lib.hid hd
        have HM := Lib.hid hml
        clear hd hmap hml
        obtain ⟨i, rfl, -⟩ := devF_val HD.out
        go_wp2
        go_roundw
        case rel => exact ⟨k + 1, by omega, by go_num, by rw [devF_known HX.out HD.out]; exact HM.out.more (by omega), hbel.alloc (by omega) _⟩
        case measure => simp [intOf]; omega
      | none =>
        rw [hd] at hlk
        simp only [if_true, Option.getD_none, Option.isSome_none] at hlk
        obtain ⟨w', hup, hm', hg⟩ := hml.store (t := 88) Tryd.underlying9 Tryd.underlying88 (by unfold maxLen; omega) hlen (plainElem_int Tryd.underlying3 (a := (k : Int)) (WalkArith.wf_i64 (by omega)))
        have HD := Lib.hid hd
        have HM := Lib.hid hm'
        have HB := Lib.hid ((hbel.alloc (by omega) (Obj.cells cs.toArray 34)).grown hg (by simp; omega) (fun j hj => by cases hj; exact Nat.le_refl _))
        clear hd hmap hml hm' hg
        go_wp2
        go_roundw
        case rel => exact ⟨k + 1, by omega, by go_num, by rw [devF_new HX.out HD.out]; exact HM.out, HB.out⟩
        case measure => simp [intOf]; omega
    · go_wp2
      go_ret
      obtain rfl : k = rs.length := by omega
      exact ⟨_, rfl, by omega, hmap, hbw⟩
end Go.Proofs.YtfncnhgopbmabaaDoor
