/-
  The names of signals: what the program's Outputs and Inputs and the reference's return, for any relay.
-/
import Derived.Test.YtfncnhgopbmabaaDoorTexts
namespace Go.Proofs.YtfncnhgopbmabaaDoor
open Go.RowKit

/-- A string is returned; old memory is as it was. -/
def RetStr (s : ByteArray) (w : World) (e : Ending) (w' : World) : Prop := e = .returned (.string s) ∧ Below w.heap.size w w'

theorem ruleName_any (a b : ByteArray) (w : World) : Calls Tryd.prog 29 #[.agg #[.string a, .string b]] w (RetStr a w) := by
  go_enter Tryd.func29, Tryd.ntmps29
  go_wp2
  go_ret
  exact ⟨rfl, box_below _ _⟩
theorem subName_any (a b c d : ByteArray) (w : World) : Calls Tryd.prog 31 #[.agg #[.string a, .string b, .string c, .string d]] w (RetStr a w) := by
  go_enter Tryd.func31, Tryd.ntmps31
  go_wp2
  go_ret
  exact ⟨rfl, box_below _ _⟩

def ruleCells (xs : List (ByteArray × ByteArray)) (k : Nat) : List Value := (xs.take k).map fun r => .string r.1
theorem ruleCells_succ (xs : List (ByteArray × ByteArray)) (k : Nat) (x : ByteArray × ByteArray) (h : xs[k]? = some x) : ruleCells xs (k + 1) = ruleCells xs k ++ [.string x.1] := by
  unfold ruleCells
  rw [List.take_add_one, h]; simp
def subCells (xs : List SubM) (k : Nat) : List Value := (xs.take k).map fun r => .string r.loc
theorem subCells_succ (xs : List SubM) (k : Nat) (x : SubM) (h : xs[k]? = some x) : subCells xs (k + 1) = subCells xs k ++ [.string x.loc] := by
  unfold subCells
  rw [List.take_add_one, h]; simp

set_option maxRecDepth 100000 in
set_option maxHeartbeats 1000000 in
theorem ruleNames_any (A : Option Addr) (c B : Nat) (xs : List (ByteArray × ByteArray)) (w : World) (hB : B ≤ w.heap.size) (hr : Rws RuleC 2 w B A xs.length xs) (hn : xs.length ≤ 1000) :
    Calls Tryd.prog 28 #[.slice A xs.length c, .func (.func 29) #[] #[]] w (RetRow 9 1 xs.length (ruleCells xs xs.length) w) := by
  obtain ⟨i0, hi, hz0, hz1, hz2⟩ := info_parts infoStr
  go_enter Tryd.func28, Tryd.ntmps28
  go_wp2
  go_loopw [5, 10] (Building 9 1 w.heap.size w xs.length (fun k => k) (ruleCells xs)) (fun _ i _ => xs.length - (intOf i).toNat)
  case atStart => exact ⟨0, Nat.zero_le _, rfl, World.ownsRow_nil _ _ _ _, Below.refl _ _⟩
  case round =>
    obtain ⟨k, hk, rfl, hown, hbel⟩ := hrel
    dsimp only at hown
    by_cases hlt : k < xs.length
    · have hsz := hbel.size
      obtain ⟨b, o, cs, x, rfl, hbB, hx, -, ⟨rfl, -, -⟩, hat⟩ := hr.at_ hlt
      have hc0 : wr.cell? ⟨b, o + k * 2, Option.none⟩ = some (.string x.1) := (hbel.cell (by show b < w.heap.size; omega)).trans (hat 0 _ rfl)
      have hc1 : wr.cell? ⟨b, o + k * 2 + 1, Option.none⟩ = some (.string x.2) := (hbel.cell (by show b < w.heap.size; omega)).trans (hat 1 _ rfl)
      have HX := Lib.hid hx
      have HO := Lib.hid hown
      clear hown hx hat hr
      go_wp2_with (first
        | (go_at_call 29; refine (ruleName_any x.1 x.2 _).mono ?_; rintro e w2 ⟨rfl, hb2⟩; have HO2 := Lib.hid (own_below (HO.out.alloc _) hb2 (Nat.le_refl _)); have hbel2 := (hbel.alloc hsz _).trans (hb2.mono (by simp; omega)); have hsz2 := hbel2.size)
        | (at_builtin; refine wpList_push _ _ 38 rfl rfl Tryd.underlying38 hi hz0 hz1 hz2 rfl (by decide) rfl HO2.out hbel2 _ rfl rfl rfl (by simp [Value.oneCell']) (by omega) (by unfold maxLen; omega) hsz2 ?_; intro v' w' hown' hbel' _))
      go_roundw
      case rel => exact ⟨k + 1, by omega, by go_num, by dsimp only; rw [ruleCells_succ xs k x HX.out]; exact hown', hbel'⟩
      case measure => simp [intOf]; omega
    · go_wp2
      go_ret
      obtain rfl : k = xs.length := by omega
      exact RetRow.mk hown (Nat.le_refl _) hbel

set_option maxRecDepth 100000 in
set_option maxHeartbeats 1000000 in
theorem subNames_any (A : Option Addr) (c B : Nat) (xs : List SubM) (w : World) (hB : B ≤ w.heap.size) (hr : Rws SubC 4 w B A xs.length xs) (hn : xs.length ≤ 1000) :
    Calls Tryd.prog 30 #[.slice A xs.length c, .func (.func 31) #[] #[]] w (RetRow 9 1 xs.length (subCells xs xs.length) w) := by
  obtain ⟨i0, hi, hz0, hz1, hz2⟩ := info_parts infoStr
  go_enter Tryd.func30, Tryd.ntmps30
  go_wp2
  go_loopw [5, 10] (Building 9 1 w.heap.size w xs.length (fun k => k) (subCells xs)) (fun _ i _ => xs.length - (intOf i).toNat)
  case atStart => exact ⟨0, Nat.zero_le _, rfl, World.ownsRow_nil _ _ _ _, Below.refl _ _⟩
  case round =>
    obtain ⟨k, hk, rfl, hown, hbel⟩ := hrel
    dsimp only at hown
    by_cases hlt : k < xs.length
    · have hsz := hbel.size
      obtain ⟨b, o, cs, x, rfl, hbB, hx, -, ⟨rfl, -⟩, hat⟩ := hr.at_ hlt
      have hc0 : wr.cell? ⟨b, o + k * 4, Option.none⟩ = some (.string x.loc) := (hbel.cell (by show b < w.heap.size; omega)).trans (hat 0 _ rfl)
      have hc1 : wr.cell? ⟨b, o + k * 4 + 1, Option.none⟩ = some (.string x.device) := (hbel.cell (by show b < w.heap.size; omega)).trans (hat 1 _ rfl)
      have hc2 : wr.cell? ⟨b, o + k * 4 + 2, Option.none⟩ = some (.string x.set) := (hbel.cell (by show b < w.heap.size; omega)).trans (hat 2 _ rfl)
      have hc3 : wr.cell? ⟨b, o + k * 4 + 3, Option.none⟩ = some (.string x.signal) := (hbel.cell (by show b < w.heap.size; omega)).trans (hat 3 _ rfl)
      have HX := Lib.hid hx
      have HO := Lib.hid hown
      clear hown hx hat hr
      go_wp2_with (first
        | (go_at_call 31; refine (subName_any x.loc x.device x.set x.signal _).mono ?_; rintro e w2 ⟨rfl, hb2⟩; have HO2 := Lib.hid (own_below (HO.out.alloc _) hb2 (Nat.le_refl _)); have hbel2 := (hbel.alloc hsz _).trans (hb2.mono (by simp; omega)); have hsz2 := hbel2.size)
        | (at_builtin; refine wpList_push _ _ 38 rfl rfl Tryd.underlying38 hi hz0 hz1 hz2 rfl (by decide) rfl HO2.out hbel2 _ rfl rfl rfl (by simp [Value.oneCell']) (by omega) (by unfold maxLen; omega) hsz2 ?_; intro v' w' hown' hbel' _))
      go_roundw
      case rel => exact ⟨k + 1, by omega, by go_num, by dsimp only; rw [subCells_succ xs k x HX.out]; exact hown', hbel'⟩
      case measure => simp [intOf]; omega
    · go_wp2
      go_ret
      obtain rfl : k = xs.length := by omega
      exact RetRow.mk hown (Nat.le_refl _) hbel

/-- The names of all signals of a relay, and of its subscriptions. -/
def RelayM.outputs (r : RelayM) : List ByteArray := fixedL r.kind ++ r.rules.map (·.1)
def RelayM.inputs (r : RelayM) : List ByteArray := r.subs.map (·.loc)

theorem ruleCells_all (xs : List (ByteArray × ByteArray)) : ruleCells xs xs.length = (xs.map (·.1)).map .string := by simp [ruleCells]
theorem subCells_all (xs : List SubM) : subCells xs xs.length = (xs.map (·.loc)).map .string := by simp [subCells]
theorem strs_one (xs : List ByteArray) : ∀ u ∈ xs.map Value.string, u.oneCell' = true := by
  intro u hu
  obtain ⟨s, _, rfl⟩ := List.mem_map.1 hu
  rfl

set_option maxRecDepth 100000 in
set_option maxHeartbeats 1000000 in
theorem outputs_any (cs : List Value) (r : RelayM) (B : Nat) (w : World) (hB : B ≤ w.heap.size) (h : RelayC w B cs r) (hs : r.rules.length ≤ 20) :
    Calls Tryd.prog 14 #[.agg cs.toArray] w (RetRow 9 1 r.outputs.length (r.outputs.map .string) w) := by
  obtain ⟨i0, hi, hz0, hz1, hz2⟩ := info_parts infoStr
  obtain ⟨c49, h49, A1, k1, e1, l1, m1, R1⟩ := h.rules
  have h1 := h.kind
  cases e1
  clear h
  have hfl := fixedL_len r.kind
  have hsum : r.outputs.length = (fixedL r.kind).length + r.rules.length := by simp [RelayM.outputs]
  have hcl : r.outputs.map Value.string = (fixedL r.kind).map .string ++ ruleCells r.rules r.rules.length := by simp [RelayM.outputs, ruleCells]
  rw [hsum, hcl]
  clear hsum hcl
  go_enter Tryd.func14, Tryd.ntmps14
  go_wp2
  have q1 : (w.alloc (Obj.cells cs.toArray 34)).cell? ⟨w.heap.size, 1, Option.none⟩ = some (.int .i64 r.kind) := by simpa using h1
  have q49 : (w.alloc (Obj.cells cs.toArray 34)).cell? ⟨w.heap.size, 49, Option.none⟩ = some (.slice A1 r.rules.length k1) := by simpa using h49
  have hbox := box_below w (Obj.cells cs.toArray 34)
  have hboxs := hbox.size
  have hBs : B ≤ w.heap.size + 1 := by omega
  have hn20 : r.rules.length ≤ 1000 := by omega
  have hgt : ∀ w2 : World, (w.alloc (Obj.cells cs.toArray 34)).heap.size ≤ w2.heap.size → w.heap.size < w2.heap.size := fun w2 h => by simp only [World.size_alloc] at h; omega
  have hm1 : (fixedL r.kind).length + r.rules.length ≤ maxLen := by unfold maxLen; omega
  have hm2 : ((fixedL r.kind).length + r.rules.length) * 16 ≤ 140737488355328 := by omega
  clear h1 h49
  go_region_held3 (fun w' => w'.cell? ⟨w.heap.size, 1, Option.none⟩ = some (.int .i64 r.kind) ∧ w'.cell? ⟨w.heap.size, 49, Option.none⟩ = some (.slice A1 r.rules.length k1)) (go_keep)
    (first
     | ((go_at_call 12; go_must (refine (fixed_any r.kind _).mono ?_; rintro e w2 ⟨A2, c2, rfl, -, -, ho2', hb2'⟩; have ho2 := own_base (base' := w.heap.size + 1) ho2' (by simp); have hb2 := below_same (a := w.alloc (Obj.cells cs.toArray 34)) (B' := w.heap.size + 1) hb2' rfl rfl rfl rfl (by simp); have z2 := hgt w2 hb2.size; have hB2 := Nat.le_trans hB (Nat.le_of_lt z2); have R2 := R1.mono RuleC.mono (Nat.le_refl _) ((hbox.mono hB).trans (hb2.mono hBs)); have p1 := (hb2.cell (p := ⟨w.heap.size, 1, Option.none⟩) (Nat.lt_succ_self _)).trans q1; have p2 := (hb2.cell (p := ⟨w.heap.size, 49, Option.none⟩) (Nat.lt_succ_self _)).trans q49)))
     | ((go_at_call 28; refine (ruleNames_any A1 k1 B r.rules _ hB2 R2 hn20).mono ?_; rintro e w3 ⟨A3, c3, rfl, -, -, ho3, hb3⟩; have z3 : w2.heap.size ≤ w3.heap.size := hb3.size; have p3 := (hb3.cell (p := ⟨w.heap.size, 1, Option.none⟩) z2).trans p1; have p4 := (hb3.cell (p := ⟨w.heap.size, 49, Option.none⟩) z2).trans p2; have ho23 := own_below ho2 hb3 (Nat.le_refl _); have hb23 := hb2.trans (hb3.mono z2); have hsrc := Src.of_own ho3; have hone : ∀ u ∈ ruleCells r.rules r.rules.length, u.oneCell' = true := by rw [ruleCells_all]; exact strs_one _))
     | ((have _t := ho23; go_must (refine step_append_src _ _ 38 (by rfl) (by rfl) Tryd.underlying38 hi hz0 hz1 hz2 rfl Nat.one_pos (by rfl) ho23 hb23 (by rfl) hsrc hone hm1 hm2 (Nat.le_trans z2 z3) ?_; intro v' w' hown' hbel' hsz'; have p5 := (hbel'.cell (p := ⟨w.heap.size, 1, Option.none⟩) (Nat.lt_succ_self _)).trans q1; have p6 := (hbel'.cell (p := ⟨w.heap.size, 49, Option.none⟩) (Nat.lt_succ_self _)).trans q49))))
  go_wp2
  go_ret
  exact RetRow.mk hown' (Nat.le_succ _) (hbox.trans (hbel'.mono (Nat.le_succ _)))

/-- The reference's loop over the rules, or the subscriptions, of a relay. -/
def outCells (r : RelayM) (k : Nat) : List Value := (fixedL r.kind).map .string ++ ruleCells r.rules k
theorem outCells_succ (r : RelayM) (k : Nat) (x : ByteArray × ByteArray) (h : r.rules[k]? = some x) : outCells r (k + 1) = outCells r k ++ [.string x.1] := by
  unfold outCells; rw [ruleCells_succ _ _ _ h, List.append_assoc]

set_option maxRecDepth 100000 in
set_option maxHeartbeats 1000000 in
theorem routputs_any (cs : List Value) (r : RelayM) (B : Nat) (w : World) (hB : B ≤ w.heap.size) (h : RelayC w B cs r) (hs : r.rules.length ≤ 20) :
    Calls Tryd.prog 15 #[.agg cs.toArray] w (RetRow 9 1 r.outputs.length (r.outputs.map .string) w) := by
  obtain ⟨i0, hi, hz0, hz1, hz2⟩ := info_parts infoStr
  obtain ⟨c49, h49, A1, k1, e1, l1, m1, R1⟩ := h.rules
  have h1 := h.kind
  cases e1
  clear h
  have hfl := fixedL_len r.kind
  have hsum : r.outputs.length = (fixedL r.kind).length + r.rules.length := by simp [RelayM.outputs]
  have hcl : r.outputs.map Value.string = outCells r r.rules.length := by simp [RelayM.outputs, outCells, ruleCells]
  rw [hsum, hcl]
  clear hsum hcl
  have q49 : (w.alloc (Obj.cells cs.toArray 34)).cell? ⟨w.heap.size, 49, Option.none⟩ = some (.slice A1 r.rules.length k1) := by simpa using h49
  have hbox := box_below w (Obj.cells cs.toArray 34)
  go_enter Tryd.func15, Tryd.ntmps15
  go_wp2_with (first
    | (go_at_call 13; refine (rfixed_any r.kind _).mono ?_; rintro e w2 ⟨A2, c2, rfl, -, -, ho2, hb2⟩; have HO2 := Lib.hid ho2; clear ho2))
  have hsz2 := hb2.size
  simp only [World.size_alloc] at hsz2
  go_loopw [3, 4] (Building 9 1 (w.heap.size + 1) (w.alloc (Obj.cells cs.toArray 34)) r.rules.length (fun k => (fixedL r.kind).length + k) (outCells r)) (fun _ i _ => r.rules.length - (intOf i).toNat)
  case atStart => exact ⟨0, Nat.zero_le _, rfl, by simpa [outCells, ruleCells] using HO2.out, by simpa using hb2⟩
  case round =>
    clear hb2 HO2 hsz2
    obtain ⟨k, hk, rfl, hown, hbel⟩ := hrel
    dsimp only at hown
    have hbw : Below w.heap.size w wr := hbox.trans (hbel.mono (by omega))
    have q : wr.cell? ⟨w.heap.size, 49, Option.none⟩ = some (.slice A1 r.rules.length k1) := (hbel.cell (p := ⟨w.heap.size, 49, Option.none⟩) (by simp)).trans q49
    by_cases hlt : k < r.rules.length
    · have hsz := hbel.size
      simp only [World.size_alloc] at hsz
      obtain ⟨b, o, cs', x, rfl, hbB, hx, -, ⟨rfl, -, -⟩, hat⟩ := R1.at_ hlt
      have hc0 : wr.cell? ⟨b, o + k * 2, Option.none⟩ = some (.string x.1) := (hbw.cell (by show b < w.heap.size; omega)).trans (hat 0 _ rfl)
      have HX := Lib.hid hx
      have HO := Lib.hid hown
      clear hown hx hat R1
      go_wp2_with (first
        | (at_builtin; refine wpList_push _ _ 38 rfl rfl Tryd.underlying38 hi hz0 hz1 hz2 rfl (by decide) rfl HO.out hbel _ rfl rfl rfl (by simp [Value.oneCell']) (by omega) (by unfold maxLen; omega) hsz ?_; intro v' w' hown' hbel' _))
      go_roundw
      case rel => exact ⟨k + 1, by omega, by go_num, by dsimp only; rw [outCells_succ r k x HX.out]; exact hown', hbel'⟩
      case measure => simp [intOf]; omega
    · go_wp2
      go_ret
      obtain rfl : k = r.rules.length := by omega
      exact RetRow.mk hown (by omega) hbw

set_option maxRecDepth 100000 in
set_option maxHeartbeats 1000000 in
theorem inputs_any (cs : List Value) (r : RelayM) (B : Nat) (w : World) (hB : B ≤ w.heap.size) (h : RelayC w B cs r) (hs : r.subs.length ≤ 30) :
    Calls Tryd.prog 16 #[.agg cs.toArray] w (RetRow 9 1 r.inputs.length (r.inputs.map .string) w) := by
  obtain ⟨c52, h52, A1, k1, e1, l1, m1, R1⟩ := h.subs
  cases e1
  clear h
  have hsum : r.inputs.length = r.subs.length := by simp [RelayM.inputs]
  have hcl : r.inputs.map Value.string = subCells r.subs r.subs.length := by simp [RelayM.inputs, subCells]
  rw [hsum, hcl]
  clear hsum hcl
  have hbox := box_below w (Obj.cells cs.toArray 34)
  go_enter Tryd.func16, Tryd.ntmps16
  go_wp2_with (first
    | (go_at_call 30; refine (subNames_any A1 k1 B r.subs _ (by simp; omega) (R1.mono SubC.mono (Nat.le_refl _) (hbox.mono hB)) (by omega)).mono ?_; rintro e w3 ⟨A3, c3, rfl, h31, h32, ho3, hb3⟩))
  go_ret
  exact RetRow.mk ho3 (by simp) (hbox.trans (hb3.mono (by simp)))

set_option maxRecDepth 100000 in
set_option maxHeartbeats 1000000 in
theorem rinputs_any (cs : List Value) (r : RelayM) (B : Nat) (w : World) (hB : B ≤ w.heap.size) (h : RelayC w B cs r) (hs : r.subs.length ≤ 30) :
    Calls Tryd.prog 17 #[.agg cs.toArray] w (RetRow 9 1 r.inputs.length (r.inputs.map .string) w) := by
  obtain ⟨i0, hi, hz0, hz1, hz2⟩ := info_parts infoStr
  obtain ⟨c52, h52, A1, k1, e1, l1, m1, R1⟩ := h.subs
  cases e1
  clear h
  have hsum : r.inputs.length = r.subs.length := by simp [RelayM.inputs]
  have hcl : r.inputs.map Value.string = subCells r.subs r.subs.length := by simp [RelayM.inputs, subCells]
  rw [hsum, hcl]
  clear hsum hcl
  have q52 : (w.alloc (Obj.cells cs.toArray 34)).cell? ⟨w.heap.size, 52, Option.none⟩ = some (.slice A1 r.subs.length k1) := by simpa using h52
  have hbox := box_below w (Obj.cells cs.toArray 34)
  go_enter Tryd.func17, Tryd.ntmps17
  go_wp2
  go_loopw [3, 4] (Building 9 1 (w.heap.size + 1) (w.alloc (Obj.cells cs.toArray 34)) r.subs.length (fun k => k) (subCells r.subs)) (fun _ i _ => r.subs.length - (intOf i).toNat)
  case atStart => exact ⟨0, Nat.zero_le _, rfl, World.ownsRow_nil _ _ _ _, Below.refl _ _⟩
  case round =>
    obtain ⟨k, hk, rfl, hown, hbel⟩ := hrel
    dsimp only at hown
    have hbw : Below w.heap.size w wr := hbox.trans (hbel.mono (by omega))
    have q : wr.cell? ⟨w.heap.size, 52, Option.none⟩ = some (.slice A1 r.subs.length k1) := (hbel.cell (p := ⟨w.heap.size, 52, Option.none⟩) (by simp)).trans q52
    by_cases hlt : k < r.subs.length
    · have hsz := hbel.size
      simp only [World.size_alloc] at hsz
      obtain ⟨b, o, cs', x, rfl, hbB, hx, -, ⟨rfl, -⟩, hat⟩ := R1.at_ hlt
      have hc0 : wr.cell? ⟨b, o + k * 4, Option.none⟩ = some (.string x.loc) := (hbw.cell (by show b < w.heap.size; omega)).trans (hat 0 _ rfl)
      have HX := Lib.hid hx
      have HO := Lib.hid hown
      clear hown hx hat R1
      go_wp2_with (first
        | (at_builtin; refine wpList_push _ _ 38 rfl rfl Tryd.underlying38 hi hz0 hz1 hz2 rfl (by decide) rfl HO.out hbel _ rfl rfl rfl (by simp [Value.oneCell']) (by omega) (by unfold maxLen; omega) hsz ?_; intro v' w' hown' hbel' _))
      go_roundw
      case rel => exact ⟨k + 1, by omega, by go_num, by dsimp only; rw [subCells_succ _ k x HX.out]; exact hown', hbel'⟩
      case measure => simp [intOf]; omega
    · go_wp2
      go_ret
      obtain rfl : k = r.subs.length := by omega
      exact RetRow.mk hown (by omega) hbw
end Go.Proofs.YtfncnhgopbmabaaDoor
