/-
  The law SignalsNames: Fixed, Outputs and Inputs return the specified names for any kind and any relay.
-/
import Derived.Test.YtfncnhgopbmabaaDoorTextsB
namespace Go.Proofs.YtfncnhgopbmabaaDoor
open Go.RowKit

set_option maxHeartbeats 1000000 in
theorem sameTexts_quiet (A1 A2 : Option Addr) (B1 B2 c1 c2 : Nat) (xs : List ByteArray) (w : World)
    (h1 : Rws StrC 1 w B1 A1 xs.length xs) (h2 : Rws StrC 1 w B2 A2 xs.length xs) (hn : xs.length ≤ maxLen) :
    Calls Tryd.prog 11 #[.slice A1 xs.length c1, .slice A2 xs.length c2] w fun e w' => e = .returned (.bool true) ∧ ∃ k, w' = w.drewN k := by
  unfold maxLen at hn
  have hl : ((xs.length : Int) != (xs.length : Int)) = false := by simp
  go_enter Tryd.func11, Tryd.ntmps11
  go_wp2
  go_loopw [5] (fun i wr => ∃ k : Nat, k ≤ xs.length ∧ i = .int .i64 k ∧ ∃ d, wr = w.drewN d) (fun i _ => xs.length - (intOf i).toNat)
  case atStart => exact ⟨0, Nat.zero_le _, rfl, 0, rfl⟩
  case round =>
    obtain ⟨k, hk, rfl, d, rfl⟩ := hrel
    by_cases hlt : k < xs.length
    · obtain ⟨b1, o1, s1, rfl, _, hx1, _, hc1⟩ := h1.strAt hlt
      obtain ⟨b2, o2, s2, rfl, _, hx2, _, hc2⟩ := h2.strAt hlt
      obtain rfl : s1 = s2 := by rw [hx1] at hx2; exact Option.some.inj hx2
      clear hx1 hx2 h1 h2
      have hk0 : (0 : Int) ≤ (k : Int) := by omega
      have hkn : (k : Int) < (xs.length : Int) := by omega
      go_wp2
      go_quiet (fail)
      go_wp2
      go_roundw
      case rel => exact ⟨k + 1, by omega, by go_num, _, rfl⟩
      case measure => simp [intOf]; omega
    · go_wp2
      go_ret
      exact ⟨rfl, d, rfl⟩
theorem sameTexts_any (A1 A2 : Option Addr) (B1 B2 c1 c2 : Nat) (xs : List ByteArray) (w : World)
    (h1 : Rws StrC 1 w B1 A1 xs.length xs) (h2 : Rws StrC 1 w B2 A2 xs.length xs) (hn : xs.length ≤ maxLen) :
    Calls Tryd.prog 11 #[.slice A1 xs.length c1, .slice A2 xs.length c2] w (RetBool true w) :=
  (sameTexts_quiet A1 A2 B1 B2 c1 c2 xs w h1 h2 hn).mono fun _ _ ⟨he, k, hw⟩ => ⟨he, by subst hw; exact below_drewN (Below.refl _ _) k⟩

def z0 : Value := .int .i64 0
def zf : Value := .bool false
def zs : Value := .slice Option.none 0 0
def knownCells (g : Nat) : List Value := [.string ⟨#[]⟩, .int .i64 3, .int .i64 0, .bool false, .bool false, .int .i64 0, .int .i64 0, .int .i64 0, .int .i64 0, .bool false, .bool false, .int .i64 0, .int .i64 0, .int .i64 0, .int .i64 0, .bool false, .bool false, .int .i64 0, .int .i64 0, .int .i64 0, .int .i64 0, .int .i64 0, .int .i64 0, .int .i64 0, .int .i64 0, .int .i64 0, .int .i64 0, .bool false, .int .i64 0, .int .i64 0, .bool false, .int .i64 0, .int .i64 0, .bool false, .int .i64 0, .int .i64 0, .int .i64 0, .int .i64 0, .int .i64 0, .bool false, .int .i64 0, .int .i64 0, .bool false, .int .i64 0, .int .i64 0, .int .i64 0, .int .i64 0, .int .i64 0, .int .i64 0, .slice (some ⟨g, 0, Option.none⟩) 1 1, .slice Option.none 0 0, .slice Option.none 0 0, .slice Option.none 0 0]
def knownRelay : RelayM := { name := ⟨#[]⟩, kind := 3, rules := [(⟨#[120]⟩, ⟨#[]⟩)], sets := [], pubs := [], subs := [] }
theorem sliceNil {α : Type} (R : World → Nat → List Value → α → Prop) (size : Nat) (w : World) (B : Nat) : SliceOf R size w B [.slice Option.none 0 0] [] :=
  ⟨Option.none, 0, rfl, Nat.le_refl _, Nat.zero_le _, rfl, fun h => absurd h (Nat.not_lt_zero _)⟩
theorem knownRelayC (w : World) : RelayC (w.alloc (Obj.cells #[.string ⟨#[120]⟩, .string ⟨#[]⟩] 76)) (w.heap.size + 1) (knownCells w.heap.size) knownRelay := by
  refine ⟨rfl, ?_, rfl, by decide, rfl, ⟨_, rfl, some ⟨w.heap.size, 0, Option.none⟩, 1, rfl, Nat.le_refl _, by decide, rfl, fun _ => ⟨w.heap.size, 0, rfl, Nat.lt_succ_self _, ?_⟩⟩, ⟨_, rfl, sliceNil _ _ _ _⟩, ⟨_, rfl, sliceNil _ _ _ _⟩, ⟨_, rfl, sliceNil _ _ _ _⟩⟩
  · intro v hv
    simp only [knownCells, List.mem_cons, List.not_mem_nil, or_false] at hv
    rcases hv with rfl | rfl | rfl | rfl | rfl | rfl | rfl | rfl | rfl | rfl | rfl | rfl | rfl | rfl | rfl | rfl | rfl | rfl | rfl | rfl | rfl | rfl | rfl | rfl | rfl | rfl | rfl | rfl | rfl | rfl | rfl | rfl | rfl | rfl | rfl | rfl | rfl | rfl | rfl | rfl | rfl | rfl | rfl | rfl | rfl | rfl | rfl | rfl | rfl | rfl | rfl | rfl | rfl <;> rfl
  · intro k x hx
    have hk : k = 0 := by have := (List.getElem?_eq_some_iff.1 hx).1; simp [knownRelay] at this; omega
    subst hk
    simp only [knownRelay, List.getElem?_cons_zero, Option.some.injEq] at hx
    subst hx
    refine ⟨[.string ⟨#[120]⟩, .string ⟨#[]⟩], rfl, ⟨rfl, by decide, by decide⟩, fun j v hv => ?_⟩
    have h2 := cell_of_row (w.alloc (Obj.cells #[.string ⟨#[120]⟩, .string ⟨#[]⟩] 76)) w.heap.size j _ 76 (0, 0) (heap_alloc_new w _)
    rw [Nat.zero_mul, Nat.zero_add, h2]
    simpa using hv

set_option maxRecDepth 100000 in
set_option maxHeartbeats 1000000 in
theorem known_any (w : World) : Calls Tryd.prog 9 #[] w (RetBool true w) := by
  have hR := knownRelayC w
  go_enter Tryd.func9, Tryd.ntmps9
  go_wp2_with fail
  refine (outputs_any (knownCells w.heap.size) knownRelay (w.heap.size + 1) _ (by simp) hR (by decide)).mono ?_
  rintro e w2 ⟨A, c, rfl, hc1, hc2, ho, hb⟩
  have hl : knownRelay.outputs.length = 8 := by decide
  obtain ⟨g, cap, hv, _, hlt⟩ := ho.form (by rw [hl]; decide)
  have hA : A = some ⟨g, 0, Option.none⟩ := by injection hv
  have hC : c = cap := by injection hv
  subst hA hC
  clear hv
  have q0 := ho.cellAt 0 (by rw [hl]; decide)
  have q7 := ho.cellAt 7 (by rw [hl]; decide)
  have q0' : w2.cell? ⟨g, 0, Option.none⟩ = some (.string ⟨#[116, 114, 105, 112]⟩) := q0
  have q7' : w2.cell? ⟨g, 7, Option.none⟩ = some (.string ⟨#[120]⟩) := q7
  rw [hl]
  clear q0 q7 ho hR hl hc1 hc2
  go_wp2
  go_ret
  exact ⟨rfl, (box_below _ _).trans (hb.mono (by simp))⟩

theorem fixedL_sizes (k : Int) : ∀ s ∈ fixedL k, s.size ≤ maxLen := by
  unfold fixedL
  split
  · exact fun s hs => Nat.le_trans ((by decide +kernel : ∀ s ∈ fixedLine, s.size ≤ 10) s hs) (by decide)
  · split
    · exact fun s hs => Nat.le_trans ((by decide +kernel : ∀ s ∈ fixedSrc, s.size ≤ 10) s hs) (by decide)
    · split
      · exact fun s hs => Nat.le_trans ((by decide +kernel : ∀ s ∈ fixedBus, s.size ≤ 10) s hs) (by decide)
      · exact fun s hs => by cases hs
theorem outputs_sizes {w : World} {B : Nat} {cs : List Value} {r : RelayM} (h : RelayC w B cs r) : ∀ s ∈ r.outputs, s.size ≤ maxLen := by
  intro s hs
  rcases List.mem_append.1 hs with h1 | h1
  · exact fixedL_sizes _ s h1
  · obtain ⟨x, hx, rfl⟩ := List.mem_map.1 h1
    obtain ⟨_, _, A1, k1, e1, l1, m1, R1⟩ := h.rules
    obtain ⟨_, _, h2, _⟩ := R1.all_ x hx
    exact h2
theorem inputs_sizes {w : World} {B : Nat} {cs : List Value} {r : RelayM} (h : RelayC w B cs r) : ∀ s ∈ r.inputs, s.size ≤ maxLen := by
  intro s hs
  obtain ⟨x, hx, rfl⟩ := List.mem_map.1 hs
  obtain ⟨_, _, A1, k1, e1, l1, m1, R1⟩ := h.subs
  obtain ⟨_, _, h2, _⟩ := R1.all_ x hx
  exact h2
theorem mlen {n : Nat} (h : n ≤ 16) : n ≤ maxLen := by unfold maxLen; omega
theorem relayInfo : (Tryd.prog.info? 34).map (·.size) = some 53 := by kernel_rfl
theorem loadRelay_fold (v : Value) : Instr.loadAt 34 v = LoadS 34 v := rfl
theorem loadRelay_row (b o : Nat) (w : World) : (LoadS 34 (.pointer (some ⟨b, o, Option.none⟩))).run Tryd.prog w = match rowAt w b o 53 with
      | some cs => .ok (.agg cs.toArray) w
      | Option.none => (Instr.loadAt 34 (.pointer (some ⟨b, o, Option.none⟩))).run Tryd.prog w := loadS_row _ 53 Tryd.underlying34 rfl relayInfo b o w
attribute [local go_sem ↓] loadRelay_fold
attribute [local go_sem] loadRelay_row
theorem rangeAt_box (w : World) (cs : List Value) (t : TypeId) : (w.alloc (Obj.cells cs.toArray t)).rangeAt w.heap.size 0 cs := by
  intro j v hv
  have h2 := cell_of_row (w.alloc (Obj.cells cs.toArray t)) w.heap.size j _ t (0, 0) (heap_alloc_new w _)
  rw [Nat.zero_add, h2]
  simpa using hv

set_option maxRecDepth 100000 in
set_option maxHeartbeats 2000000 in
theorem names_any (k : Int) (cs : List Value) (r : RelayM) (B : Nat) (w : World) (hB : B ≤ w.heap.size) (h : RelayC w B cs r) :
    Calls Tryd.prog 3 #[.int .i64 k, .agg cs.toArray] w (RetBool true w) := by
  have hbox := box_below w (Obj.cells cs.toArray 34)
  have hr0 := rowAt_of (rangeAt_box w cs 34) h.len
  have H := Lib.hid h
  clear h
  go_enter Tryd.func3, Tryd.ntmps3
  go_wp2_with fail
  refine (known_any _).mono ?_
  rintro e w1 ⟨rfl, hb1⟩
  have hb1' := below_same (a := w.alloc (Obj.cells cs.toArray 34)) (B' := w.heap.size + 1) hb1 rfl rfl rfl rfl (by simp)
  have hr1 := rowAt_below hr0 hb1' (Nat.lt_succ_self _)
  have hw1 := hbox.trans (hb1'.mono (Nat.le_succ _))
  have hs1 := hw1.size
  clear hb1
  go_wp2_with fail
  refine (large_any cs r B _ (by omega) (RelayC.mono _ _ _ _ _ _ (Nat.le_refl _) (hw1.mono hB) H.out)).mono ?_
  rintro e w2 ⟨b, hsm, rfl, hb2⟩
  have hw2 := hw1.trans (hb2.mono hs1)
  have hb2' := hb1'.trans (hb2.mono (by have := hb1'.size; simpa using this))
  have hr2 := rowAt_below hr0 hb2' (Nat.lt_succ_self _)
  have hs2 := hw2.size
  have hs2' := hb2'.size
  simp only [World.size_alloc] at hs2'
  clear hb2 hr1
  cases b
  case true =>
    go_wp2
    go_ret
    exact ⟨rfl, hw2⟩
  have hS : r.Small := hsm rfl
  have HS := Lib.hid hS
  have H2 := Lib.hid (RelayC.mono _ _ _ _ _ _ (Nat.le_refl _) (hw2.mono hB) H.out)
  clear hsm hS H hb1' hw1 hs1
  go_wp2
  have hB2 : B ≤ w2.heap.size := Nat.le_trans hB hs2
  have hru := HS.out.rules
  have hsF := fixedL_sizes k
  have hsO := outputs_sizes H2.out
  have hsI := inputs_sizes H2.out
  have hsu := HS.out.subs
  have hmo : r.outputs.length ≤ maxLen := by have := fixedL_len r.kind; simp only [RelayM.outputs, List.length_append, List.length_map]; unfold maxLen; omega
  have hmi : r.inputs.length ≤ maxLen := by simp only [RelayM.inputs, List.length_map]; unfold maxLen; omega
  go_region_held3 (fun w' => rowAt w' w.heap.size 0 53 = some cs) (first | (simp only [rowAt_drew]; assumption) | assumption)
    (first
     | ((go_at_call 12; refine (fixed_any k _).mono ?_; rintro e w3 ⟨A3, c3, rfl, -, -, ho3, hb3⟩; have hcur := below_same (a := w2) (B' := w2.heap.size) hb3 rfl rfl rfl rfl (Nat.le_refl _); have hr3 := rowAt_below hr2 hcur hs2'))
     | ((go_at_call 13; refine (rfixed_any k _).mono ?_; rintro e w4 ⟨A4, c4, rfl, -, -, ho4, hb4⟩; have hcur := hcur.trans (hb4.mono hcur.size); have hr4 := rowAt_below hr2 hcur hs2'; have q1 := Rws.of_ownStr (own_below ho3 hb4 (Nat.le_refl _)) hsF; have q2 := Rws.of_ownStr ho4 hsF; have hm := mlen (fixedL_len k)))
     | ((go_at_call 14; refine (outputs_any cs r B _ (Nat.le_trans hB2 hcur.size) (RelayC.mono _ _ _ _ _ _ (Nat.le_refl _) (hcur.mono hB2) H2.out) hru).mono ?_; rintro e w3 ⟨A3, c3, rfl, -, -, ho3, hb3⟩; have hcur := hcur.trans (hb3.mono hcur.size); have hr3 := rowAt_below hr2 hcur hs2'))
     | ((go_at_call 15; refine (routputs_any cs r B _ (Nat.le_trans hB2 hcur.size) (RelayC.mono _ _ _ _ _ _ (Nat.le_refl _) (hcur.mono hB2) H2.out) hru).mono ?_; rintro e w4 ⟨A4, c4, rfl, -, -, ho4, hb4⟩; have hcur := hcur.trans (hb4.mono hcur.size); have hr4 := rowAt_below hr2 hcur hs2'; have q1 := Rws.of_ownStr (own_below ho3 hb4 (Nat.le_refl _)) hsO; have q2 := Rws.of_ownStr ho4 hsO; have hm := hmo))
     | ((go_at_call 16; refine (inputs_any cs r B _ (Nat.le_trans hB2 hcur.size) (RelayC.mono _ _ _ _ _ _ (Nat.le_refl _) (hcur.mono hB2) H2.out) hsu).mono ?_; rintro e w3 ⟨A3, c3, rfl, -, -, ho3, hb3⟩; have hcur := hcur.trans (hb3.mono hcur.size); have hr3 := rowAt_below hr2 hcur hs2'))
     | ((go_at_call 17; refine (rinputs_any cs r B _ (Nat.le_trans hB2 hcur.size) (RelayC.mono _ _ _ _ _ _ (Nat.le_refl _) (hcur.mono hB2) H2.out) hsu).mono ?_; rintro e w4 ⟨A4, c4, rfl, -, -, ho4, hb4⟩; have hcur := hcur.trans (hb4.mono hcur.size); have hr4 := rowAt_below hr2 hcur hs2'; have q1 := Rws.of_ownStr (own_below ho3 hb4 (Nat.le_refl _)) hsI; have q2 := Rws.of_ownStr ho4 hsI; have hm := hmi))
     | ((go_at_call 11; refine (sameTexts_any _ _ _ _ _ _ _ _ q1 q2 hm).mono ?_; rintro e w5 ⟨rfl, hb5⟩; have hcur := hcur.trans (hb5.mono hcur.size); have hr5 := rowAt_below hr2 hcur hs2')))
  go_wp2
  go_ret
  exact ⟨rfl, hw2.trans (hcur.mono hs2)⟩
end Go.Proofs.YtfncnhgopbmabaaDoor
