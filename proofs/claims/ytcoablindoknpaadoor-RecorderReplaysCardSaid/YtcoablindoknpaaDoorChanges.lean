/-
  Changes of the program and of the reference, over any two lists of bools.
-/
import Derived.Test.YtcoablindoknpaaDoorKnown
namespace Go.Proofs.YtcoablindoknpaaDoor
open Go.RowKit

theorem Rws.boolAt {B n : Nat} {w : World} {A : Option Addr} {xs : List Bool} (h : Rws BoolC 1 w B A n xs) {k : Nat} (hk : k < n) :
    ∃ b o s, A = some ⟨b, o, Option.none⟩ ∧ b < B ∧ xs[k]? = some s ∧ w.cell? ⟨b, o + k, Option.none⟩ = some (.bool s) := by
  obtain ⟨b, o, cs, x, e, hlt, hx, _, rfl, hat⟩ := h.at_ hk
  exact ⟨b, o, x, e, hlt, hx, by simpa using hat 0 _ rfl⟩
def oldB (bf : List Bool) (k : Nat) : Bool := (bf[k]?).getD false
def chE (t d q : Int) (k : Nat) (v : Bool) : Ev := ⟨t, d, (k : Int), v, q⟩
def chS (t d q : Int) (bf af : List Bool) : Nat → List Ev
  | 0 => []
  | k + 1 => chS t d q bf af k ++ (match af[k]? with
    | Option.none => []
    | some v => if oldB bf k = v then [] else [chE t d q k v])
theorem chS_len (t d q : Int) (bf af : List Bool) : ∀ k, (chS t d q bf af k).length ≤ k
  | 0 => Nat.le_refl _
  | k + 1 => by
    have := chS_len t d q bf af k
    unfold chS
    rw [List.length_append]
    split
    · simp; omega
    · split <;> simp <;> omega
theorem chS_no {t d q : Int} {bf af : List Bool} {k : Nat} {v : Bool} (h : af[k]? = some v) (hv : oldB bf k = v) : chS t d q bf af (k + 1) = chS t d q bf af k := by simp [chS, h, hv]
theorem chS_yes {t d q : Int} {bf af : List Bool} {k : Nat} {v : Bool} (h : af[k]? = some v) (hv : ¬ oldB bf k = v) : chS t d q bf af (k + 1) = chS t d q bf af k ++ [chE t d q k v] := by simp [chS, h, hv]
def changesS (t d q : Int) (bf af : List Bool) : List Ev := if goodB ⟨t, d, 0, false, q⟩ = false ∨ 1000 < af.length then [] else chS t d q bf af af.length

def RcR (w : World) (t d q : Int) (bf af : List Bool) (v i : Value) (wr : World) : Prop :=
  ∃ k : Nat, k ≤ af.length ∧ i = .int .i64 k ∧ wr.ownsRow w.heap.size 26 5 v (chS t d q bf af k).length (evCells (chS t d q bf af k)) ∧ Below w.heap.size w wr

set_option maxRecDepth 100000 in
set_option maxHeartbeats 4000000 in
theorem rchanges_any (t d q : Int) (A1 A2 : Option Addr) (c1 c2 B : Nat) (bf af : List Bool) (w : World) (hB : B ≤ w.heap.size) (h1 : Rws BoolC 1 w B A1 bf.length bf) (h2 : Rws BoolC 1 w B A2 af.length af) (hb : bf.length ≤ maxLen) (ha : af.length ≤ maxLen) :
    Calls Tryd.prog 26 #[.int .i64 t, .int .i64 d, .int .i64 q, .slice A1 bf.length c1, .slice A2 af.length c2] w (RetRow 26 5 (changesS t d q bf af).length (evCells (changesS t d q bf af)) w) := by
  unfold maxLen at hb ha
  have C := fun W => rgood_any ⟨t, d, 0, false, q⟩ W
  unfold Ev.cells at C
  dsimp only at C
  have hnil : ∀ W, Below w.heap.size w W → changesS t d q bf af = [] → RetRow 26 5 (changesS t d q bf af).length (evCells (changesS t d q bf af)) w (.returned (.slice Option.none 0 0)) W := fun W hbw he => by
    rw [he]
    exact RetRow.mk (World.ownsRow_nil _ w.heap.size _ _) (Nat.le_refl _) hbw
  have HN := Lib.hid hnil
  clear hnil
  cases hg : goodB ⟨t, d, 0, false, q⟩ with
  | false =>
    rw [hg] at C
    have HC := Lib.hid C
    have e0 := Lib.hid (show changesS t d q bf af = [] by simp [changesS, hg])
    clear C hg
    go_enter Tryd.func26, Tryd.ntmps26
    go_wp2_with fail
    refine (HC.out _).mono ?_
    rintro e w1 ⟨rfl, hb1⟩
    go_wp2
    go_ret
    exact HN.out _ hb1 e0.out
  | true =>
  rw [hg] at C
  have HC := Lib.hid C
  by_cases hlen : 1000 < af.length
  · have e0 := Lib.hid (show changesS t d q bf af = [] by simp [changesS, hlen])
    clear C hg
    go_enter Tryd.func26, Tryd.ntmps26
    go_wp2_with fail
    refine (HC.out _).mono ?_
    rintro e w1 ⟨rfl, hb1⟩
    go_wp2
    go_ret
    exact HN.out _ hb1 e0.out
  have e0 := Lib.hid (show changesS t d q bf af = chS t d q bf af af.length by simp [changesS, hg, hlen])
  obtain ⟨i0, hi, hz0, hz1, hz2⟩ := info_parts infoEv
  clear C hg HN
  go_enter Tryd.func26, Tryd.ntmps26
  go_wp2_with fail
  refine (HC.out _).mono ?_
  rintro e w1 ⟨rfl, hb1⟩
  clear HC
  go_wp2_with fail
  go_loopw [11, 28] (RcR w t d q bf af) (fun _ i _ => af.length - (intOf i).toNat)
  case atStart => exact ⟨0, Nat.zero_le _, rfl, World.ownsRow_nil _ _ _ _, hb1⟩
  case round =>
    obtain ⟨k, hk, rfl, hown, hbel⟩ := hrel
    have HO := Lib.hid hown
    have hsz := hbel.size
    clear hown
    by_cases hlt : k < af.length
    · obtain ⟨b, o, x, rfl, hbB, hx, hcell⟩ := (h2.mono BoolC.mono (Nat.le_refl _) (hbel.mono hB)).boolAt hlt
      have HX := Lib.hid hx
      have hln := chS_len t d q bf af k
      clear hx
      have hold : (∃ b1 o1, A1 = some ⟨b1, o1, Option.none⟩ ∧ k < bf.length ∧ wr.cell? ⟨b1, o1 + k, Option.none⟩ = some (.bool (oldB bf k))) ∨ (¬ k < bf.length ∧ oldB bf k = false) := by
        by_cases hkb : k < bf.length
        · obtain ⟨b1, o1, y, e1, _, hy, hc⟩ := (h1.mono BoolC.mono (Nat.le_refl _) (hbel.mono hB)).boolAt hkb
          exact .inl ⟨b1, o1, e1, hkb, by rw [hc]; simp [oldB, hy]⟩
        · exact .inr ⟨hkb, by simp [oldB, List.getElem?_eq_none (Nat.le_of_not_lt hkb)]⟩
      have hno := chS_no (t := t) (d := d) (q := q) (bf := bf) HX.out
      have hyes := chS_yes (t := t) (d := d) (q := q) (bf := bf) HX.out
      have HNo := Lib.hid hno
      have HYes := Lib.hid hyes
      have on1 := ev_one (chE t d q k x)
      unfold chE at on1
      dsimp only at on1
      have m1 : (chS t d q bf af k).length + 1 ≤ maxLen := by unfold maxLen; omega
      have m2 : ((chS t d q bf af k).length + 1) * 40 ≤ 140737488355328 := by omega
      clear hno hyes
      rcases hold with ⟨b1, o1, rfl, hkb, hcb⟩ | ⟨hkb, hob⟩
      · generalize oldB bf k = ob at *
        cases ob <;> cases x
        · have HN2 := Lib.hid (HNo.out rfl)
          go_wp2
          go_roundw
          case rel => exact ⟨k + 1, by omega, by go_num, by rw [HN2.out]; exact HO.out, hbel⟩
          case measure => simp [intOf]; omega
        · have HY2 := Lib.hid (HYes.out (by decide))
          go_wp2_with (at_builtin; refine wpList_push (o := ⟨some 54, _, _, _, _, _⟩) _ _ 22 rfl rfl Tryd.underlying22 hi hz0 hz1 hz2 rfl (by decide) rfl HO.out hbel _ rfl rfl rfl on1 m2 m1 hsz ?_; intro v2 w2 hown2 hbel2 hsz2)
          go_roundw
          case rel => exact ⟨k + 1, by omega, by go_num, by rw [HY2.out, evCells_append, evCells_one', List.length_append]; exact hown2, hbel2⟩
          case measure => simp [intOf]; omega
        · have HY2 := Lib.hid (HYes.out (by decide))
          go_wp2_with (at_builtin; refine wpList_push (o := ⟨some 54, _, _, _, _, _⟩) _ _ 22 rfl rfl Tryd.underlying22 hi hz0 hz1 hz2 rfl (by decide) rfl HO.out hbel _ rfl rfl rfl on1 m2 m1 hsz ?_; intro v2 w2 hown2 hbel2 hsz2)
          go_roundw
          case rel => exact ⟨k + 1, by omega, by go_num, by rw [HY2.out, evCells_append, evCells_one', List.length_append]; exact hown2, hbel2⟩
          case measure => simp [intOf]; omega
        · have HN2 := Lib.hid (HNo.out rfl)
          go_wp2
          go_roundw
          case rel => exact ⟨k + 1, by omega, by go_num, by rw [HN2.out]; exact HO.out, hbel⟩
          case measure => simp [intOf]; omega
      · generalize oldB bf k = ob at *
        subst hob
        have hge : bf.length ≤ k := by omega
        cases x
        · have HN2 := Lib.hid (HNo.out rfl)
          go_wp2
          go_roundw
          case rel => exact ⟨k + 1, by omega, by go_num, by rw [HN2.out]; exact HO.out, hbel⟩
          case measure => simp [intOf]; omega
        · have HY2 := Lib.hid (HYes.out (by decide))
          go_wp2_with (at_builtin; refine wpList_push (o := ⟨some 54, _, _, _, _, _⟩) _ _ 22 rfl rfl Tryd.underlying22 hi hz0 hz1 hz2 rfl (by decide) rfl HO.out hbel _ rfl rfl rfl on1 m2 m1 hsz ?_; intro v2 w2 hown2 hbel2 hsz2)
          go_roundw
          case rel => exact ⟨k + 1, by omega, by go_num, by rw [HY2.out, evCells_append, evCells_one', List.length_append]; exact hown2, hbel2⟩
          case measure => simp [intOf]; omega
    · obtain rfl : k = af.length := by omega
      go_wp2
      go_ret
      rw [e0.out]
      exact RetRow.mk HO.out (Nat.le_refl _) hbel

/-- The event's box that the call writes into. -/
structure EZc (W : World) (b : Nat) (e : Ev) : Prop extends EB W b 0 e where
  lt : b < W.heap.size
  z2 : W.frozen? ⟨b, 2, Option.none⟩ = false
  z3 : W.frozen? ⟨b, 3, Option.none⟩ = false
theorem EZc.below {W W' : World} {B b : Nat} {e : Ev} (h : EZc W b e) (hb : Below B W W') (hB : b < B) : EZc W' b e :=
  ⟨h.toEB.below hb hB, Nat.lt_of_lt_of_le h.lt hb.size, (hb.frozen (p := ⟨b, 2, Option.none⟩) hB).trans h.z2, (hb.frozen (p := ⟨b, 3, Option.none⟩) hB).trans h.z3⟩
theorem EZc.put {W : World} {b : Nat} {t d sg q : Int} {vl : Bool} (h : EZc W b ⟨t, d, sg, vl, q⟩) (n : Int) (v : Bool) : EZc ((W.setCell ⟨b, 2, Option.none⟩ (.int .i64 n)).setCell ⟨b, 3, Option.none⟩ (.bool v)) b ⟨t, d, n, v, q⟩ := by
  obtain ⟨⟨c0, c1, c2, c3, c4⟩, hl, z2, z3⟩ := h
  dsimp only at c0 c1 c2 c3 c4
  exact ⟨⟨by go_simp, by go_simp, by go_simp, by go_simp, by go_simp⟩, by simpa using hl, by go_simp, by go_simp⟩
def CgR (w : World) (t d q : Int) (bf af : List Bool) (v i : Value) (wr : World) : Prop :=
  ∃ k : Nat, k ≤ af.length ∧ i = .int .i64 k ∧ wr.ownsRow (w.heap.size + 1) 26 5 v (chS t d q bf af k).length (evCells (chS t d q bf af k)) ∧ (∃ sg vl, EZc wr w.heap.size ⟨t, d, sg, vl, q⟩) ∧ Below w.heap.size w wr

set_option maxRecDepth 100000 in
set_option maxHeartbeats 4000000 in
theorem changes_any (t d q : Int) (A1 A2 : Option Addr) (c1 c2 B : Nat) (bf af : List Bool) (w : World) (hB : B ≤ w.heap.size) (h1 : Rws BoolC 1 w B A1 bf.length bf) (h2 : Rws BoolC 1 w B A2 af.length af) (hb : bf.length ≤ maxLen) (ha : af.length ≤ maxLen) :
    Calls Tryd.prog 25 #[.int .i64 t, .int .i64 d, .int .i64 q, .slice A1 bf.length c1, .slice A2 af.length c2] w (RetRow 26 5 (changesS t d q bf af).length (evCells (changesS t d q bf af)) w) := by
  unfold maxLen at hb ha
  have C := fun W => good_any ⟨t, d, 0, false, q⟩ W
  unfold Ev.cells at C
  dsimp only at C
  have hbox := box_below w (Obj.cells #[.int .i64 t, .int .i64 d, .int .i64 0, .bool false, .int .i64 q] 26)
  have EZ0 : EZc (w.alloc (Obj.cells #[.int .i64 t, .int .i64 d, .int .i64 0, .bool false, .int .i64 q] 26)) w.heap.size ⟨t, d, 0, false, q⟩ := ⟨EB.new w ⟨t, d, 0, false, q⟩ 26, by simp, by go_simp, by go_simp⟩
  have hnil : ∀ W, Below w.heap.size w W → changesS t d q bf af = [] → RetRow 26 5 (changesS t d q bf af).length (evCells (changesS t d q bf af)) w (.returned (.slice Option.none 0 0)) W := fun W hbw he => by
    rw [he]
    exact RetRow.mk (World.ownsRow_nil _ w.heap.size _ _) (Nat.le_refl _) hbw
  have HN := Lib.hid hnil
  clear hnil
  cases hg : goodB ⟨t, d, 0, false, q⟩ with
  | false =>
    rw [hg] at C
    have HC := Lib.hid C
    have e0 := Lib.hid (show changesS t d q bf af = [] by simp [changesS, hg])
    clear C hg
    go_enter Tryd.func25, Tryd.ntmps25
    go_wp2_with fail
    refine (HC.out _).mono ?_
    rintro e w1 ⟨rfl, hb1⟩
    go_wp2
    go_ret
    exact HN.out _ (hbox.trans (hb1.mono (by simp))) e0.out
  | true =>
  rw [hg] at C
  have HC := Lib.hid C
  by_cases hlen : 1000 < af.length
  · have e0 := Lib.hid (show changesS t d q bf af = [] by simp [changesS, hlen])
    clear C hg
    go_enter Tryd.func25, Tryd.ntmps25
    go_wp2_with fail
    refine (HC.out _).mono ?_
    rintro e w1 ⟨rfl, hb1⟩
    go_wp2
    go_ret
    exact HN.out _ (hbox.trans (hb1.mono (by simp))) e0.out
  have e0 := Lib.hid (show changesS t d q bf af = chS t d q bf af af.length by simp [changesS, hg, hlen])
  obtain ⟨i0, hi, hz0, hz1, hz2⟩ := info_parts infoEv
  clear C hg HN
  go_enter Tryd.func25, Tryd.ntmps25
  go_wp2_with fail
  refine (HC.out _).mono ?_
  rintro e w1 ⟨rfl, hb1⟩
  have EZ1 := EZ0.below hb1 (by simp)
  have hw1 := hbox.trans (hb1.mono (by simp))
  clear HC EZ0 hb1 hbox
  go_wp2_with fail
  go_loopw [12, 30] (CgR w t d q bf af) (fun _ i _ => af.length - (intOf i).toNat)
  case atStart => exact ⟨0, Nat.zero_le _, rfl, World.ownsRow_nil _ _ _ _, ⟨0, false, EZ1⟩, hw1⟩
  case round =>
    clear EZ1 hw1
    obtain ⟨k, hk, rfl, hown, ⟨sg, vl, EZr⟩, hbel⟩ := hrel
    have HO := Lib.hid hown
    have hsz := hbel.size
    clear hown
    by_cases hlt : k < af.length
    · obtain ⟨b, o, x, rfl, hbB, hx, hcell⟩ := (h2.mono BoolC.mono (Nat.le_refl _) (hbel.mono hB)).boolAt hlt
      have HX := Lib.hid hx
      have hln := chS_len t d q bf af k
      obtain ⟨⟨y0, y1, y2, y3, y4⟩, yl, f2, f3⟩ := id EZr
      dsimp only at y0 y1 y2 y3 y4
      have hbne : ¬ b = w.heap.size := by omega
      clear hx
      have hold : (∃ b1 o1, A1 = some ⟨b1, o1, Option.none⟩ ∧ k < bf.length ∧ wr.cell? ⟨b1, o1 + k, Option.none⟩ = some (.bool (oldB bf k))) ∨ (¬ k < bf.length ∧ oldB bf k = false) := by
        by_cases hkb : k < bf.length
        · obtain ⟨b1, o1, y, e1, _, hy, hc⟩ := (h1.mono BoolC.mono (Nat.le_refl _) (hbel.mono hB)).boolAt hkb
          exact .inl ⟨b1, o1, e1, hkb, by rw [hc]; simp [oldB, hy]⟩
        · exact .inr ⟨hkb, by simp [oldB, List.getElem?_eq_none (Nat.le_of_not_lt hkb)]⟩
      have hno := chS_no (t := t) (d := d) (q := q) (bf := bf) HX.out
      have hyes := chS_yes (t := t) (d := d) (q := q) (bf := bf) HX.out
      have HNo := Lib.hid hno
      have HYes := Lib.hid hyes
      have on1 := ev_one (chE t d q k x)
      unfold chE at on1
      dsimp only at on1
      have m1 : (chS t d q bf af k).length + 1 ≤ maxLen := by unfold maxLen; omega
      have m2 : ((chS t d q bf af k).length + 1) * 40 ≤ 140737488355328 := by omega
      clear hno hyes
      rcases hold with ⟨b1, o1, rfl, hkb, hcb⟩ | ⟨hkb, hob⟩
      · generalize oldB bf k = ob at *
        cases ob <;> cases x
        · have HN2 := Lib.hid (HNo.out rfl)
          go_wp2
          go_roundw
          case rel => exact ⟨k + 1, by omega, by go_num, by rw [HN2.out]; exact HO.out, ⟨sg, vl, EZr⟩, hbel⟩
          case measure => simp [intOf]; omega
        · have HY2 := Lib.hid (HYes.out (by decide))
          have oS := own_setCell (own_setCell HO.out (Nat.lt_succ_self _) 2 (.int .i64 (k : Int))) (Nat.lt_succ_self _) 3 (.bool true)
          have eS := EZr.put (k : Int) true
          have bS : Below (w.heap.size + 1) ((wr.setCell ⟨w.heap.size, 2, Option.none⟩ (.int .i64 (k : Int))).setCell ⟨w.heap.size, 3, Option.none⟩ (.bool true)) ((wr.setCell ⟨w.heap.size, 2, Option.none⟩ (.int .i64 (k : Int))).setCell ⟨w.heap.size, 3, Option.none⟩ (.bool true)) := Below.refl _ _
          have hsS : w.heap.size + 1 ≤ ((wr.setCell ⟨w.heap.size, 2, Option.none⟩ (.int .i64 (k : Int))).setCell ⟨w.heap.size, 3, Option.none⟩ (.bool true)).heap.size := eS.lt
          have bW := (hbel.setCell (p := ⟨w.heap.size, 2, Option.none⟩) (Nat.le_refl _) (.int .i64 (k : Int))).setCell (p := ⟨w.heap.size, 3, Option.none⟩) (Nat.le_refl _) (.bool true)
          have HoS := Lib.hid oS
          have HeS := Lib.hid eS
          have HbW := Lib.hid bW
          clear oS eS bW
          go_wp2_with (at_builtin; refine wpList_push (o := ⟨some 55, _, _, _, _, _⟩) _ _ 22 rfl rfl Tryd.underlying22 hi hz0 hz1 hz2 rfl (by decide) rfl HoS.out bS wr.heap.size (by simp only [World.size_setCell]) rfl rfl on1 m2 m1 hsS ?_; intro v2 w2 hown2 hbel2 hsz2)
          go_roundw
          case rel => exact ⟨k + 1, by omega, by go_num, by rw [HY2.out, evCells_append, evCells_one', List.length_append]; exact hown2, ⟨(k : Int), true, HeS.out.below hbel2 (Nat.lt_succ_self _)⟩, HbW.out.trans (hbel2.mono (Nat.le_succ _))⟩
          case measure => simp [intOf]; omega
        · have HY2 := Lib.hid (HYes.out (by decide))
          have oS := own_setCell (own_setCell HO.out (Nat.lt_succ_self _) 2 (.int .i64 (k : Int))) (Nat.lt_succ_self _) 3 (.bool false)
          have eS := EZr.put (k : Int) false
          have bS : Below (w.heap.size + 1) ((wr.setCell ⟨w.heap.size, 2, Option.none⟩ (.int .i64 (k : Int))).setCell ⟨w.heap.size, 3, Option.none⟩ (.bool false)) ((wr.setCell ⟨w.heap.size, 2, Option.none⟩ (.int .i64 (k : Int))).setCell ⟨w.heap.size, 3, Option.none⟩ (.bool false)) := Below.refl _ _
          have hsS : w.heap.size + 1 ≤ ((wr.setCell ⟨w.heap.size, 2, Option.none⟩ (.int .i64 (k : Int))).setCell ⟨w.heap.size, 3, Option.none⟩ (.bool false)).heap.size := eS.lt
          have bW := (hbel.setCell (p := ⟨w.heap.size, 2, Option.none⟩) (Nat.le_refl _) (.int .i64 (k : Int))).setCell (p := ⟨w.heap.size, 3, Option.none⟩) (Nat.le_refl _) (.bool false)
          have HoS := Lib.hid oS
          have HeS := Lib.hid eS
          have HbW := Lib.hid bW
          clear oS eS bW
          go_wp2_with (at_builtin; refine wpList_push (o := ⟨some 55, _, _, _, _, _⟩) _ _ 22 rfl rfl Tryd.underlying22 hi hz0 hz1 hz2 rfl (by decide) rfl HoS.out bS wr.heap.size (by simp only [World.size_setCell]) rfl rfl on1 m2 m1 hsS ?_; intro v2 w2 hown2 hbel2 hsz2)
          go_roundw
          case rel => exact ⟨k + 1, by omega, by go_num, by rw [HY2.out, evCells_append, evCells_one', List.length_append]; exact hown2, ⟨(k : Int), false, HeS.out.below hbel2 (Nat.lt_succ_self _)⟩, HbW.out.trans (hbel2.mono (Nat.le_succ _))⟩
          case measure => simp [intOf]; omega
        · have HN2 := Lib.hid (HNo.out rfl)
          go_wp2
          go_roundw
          case rel => exact ⟨k + 1, by omega, by go_num, by rw [HN2.out]; exact HO.out, ⟨sg, vl, EZr⟩, hbel⟩
          case measure => simp [intOf]; omega
      · generalize oldB bf k = ob at *
        subst hob
        have hge : bf.length ≤ k := by omega
        cases x
        · have HN2 := Lib.hid (HNo.out rfl)
          go_wp2
          go_roundw
          case rel => exact ⟨k + 1, by omega, by go_num, by rw [HN2.out]; exact HO.out, ⟨sg, vl, EZr⟩, hbel⟩
          case measure => simp [intOf]; omega
        · have HY2 := Lib.hid (HYes.out (by decide))
          have oS := own_setCell (own_setCell HO.out (Nat.lt_succ_self _) 2 (.int .i64 (k : Int))) (Nat.lt_succ_self _) 3 (.bool true)
          have eS := EZr.put (k : Int) true
          have bS : Below (w.heap.size + 1) ((wr.setCell ⟨w.heap.size, 2, Option.none⟩ (.int .i64 (k : Int))).setCell ⟨w.heap.size, 3, Option.none⟩ (.bool true)) ((wr.setCell ⟨w.heap.size, 2, Option.none⟩ (.int .i64 (k : Int))).setCell ⟨w.heap.size, 3, Option.none⟩ (.bool true)) := Below.refl _ _
          have hsS : w.heap.size + 1 ≤ ((wr.setCell ⟨w.heap.size, 2, Option.none⟩ (.int .i64 (k : Int))).setCell ⟨w.heap.size, 3, Option.none⟩ (.bool true)).heap.size := eS.lt
          have bW := (hbel.setCell (p := ⟨w.heap.size, 2, Option.none⟩) (Nat.le_refl _) (.int .i64 (k : Int))).setCell (p := ⟨w.heap.size, 3, Option.none⟩) (Nat.le_refl _) (.bool true)
          have HoS := Lib.hid oS
          have HeS := Lib.hid eS
          have HbW := Lib.hid bW
          clear oS eS bW
          go_wp2_with (at_builtin; refine wpList_push (o := ⟨some 55, _, _, _, _, _⟩) _ _ 22 rfl rfl Tryd.underlying22 hi hz0 hz1 hz2 rfl (by decide) rfl HoS.out bS wr.heap.size (by simp only [World.size_setCell]) rfl rfl on1 m2 m1 hsS ?_; intro v2 w2 hown2 hbel2 hsz2)
          go_roundw
          case rel => exact ⟨k + 1, by omega, by go_num, by rw [HY2.out, evCells_append, evCells_one', List.length_append]; exact hown2, ⟨(k : Int), true, HeS.out.below hbel2 (Nat.lt_succ_self _)⟩, HbW.out.trans (hbel2.mono (Nat.le_succ _))⟩
          case measure => simp [intOf]; omega
    · obtain rfl : k = af.length := by omega
      go_wp2
      go_ret
      rw [e0.out]
      exact RetRow.mk HO.out (Nat.le_succ _) hbel
end Go.Proofs.YtcoablindoknpaaDoor
