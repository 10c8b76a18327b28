/-
  A copy of the relays in memory of the call's own, in which one relay publishes nothing: it reads as the muted list.
-/
import Derived.Test.YtfncnhgopbmabaaDoorPlainB
import Derived.Test.YtfncnhgopbmabaaDoorOpen
import Derived.Test.YtfncnhgopbmabaaDoorFindL
namespace Go.Proofs.YtfncnhgopbmabaaDoor
open Go.RowKit

/-- A row of cells by themselves. -/
def Bare (_ : World) (_ : Nat) (cs x : List Value) : Prop := cs = x
theorem Bare.mono : Mono Bare := fun _ _ _ _ _ _ _ _ h => h

theorem rws_cells {α : Type} {R : World → Nat → List Value → α → Prop} {size B n : Nat} {w : World} {A : Option Addr} {xs : List α} (h : Rws R size w B A n xs) :
    ∃ css : List (List Value), css.length = n ∧ (∀ cs ∈ css, cs.length = size) ∧ (∀ (k : Nat) cs x, css[k]? = some cs → xs[k]? = some x → R w B cs x) ∧ Rws Bare size w B A n css := by
  have hp : ∀ k, k < n → ∃ cs : List Value, cs.length = size ∧ (∀ x, xs[k]? = some x → R w B cs x) ∧ ∃ b o, A = some ⟨b, o, Option.none⟩ ∧ w.rangeAt b (o + k * size) cs := by
    intro k hk
    obtain ⟨b, o, cs, x, e, _, hx, hl, hR, hat⟩ := h.at_ hk
    exact ⟨cs, hl, fun y hy => by rw [hx] at hy; cases hy; exact hR, b, o, e, hat⟩
  obtain ⟨css, hl, hc⟩ := list_of _ n hp
  refine ⟨css, hl, fun cs hm => ?_, fun k cs x hk hx => (hc k cs hk).2.1 x hx, hl, fun hn => ?_⟩
  · obtain ⟨k, hk⟩ := List.getElem?_of_mem hm
    exact (hc k cs hk).1
  · obtain ⟨b, o, e, hlt, _⟩ := h.2 hn
    refine ⟨b, o, e, hlt, fun k cs hk => ?_⟩
    obtain ⟨h1, _, b', o', e', hat⟩ := hc k cs hk
    rw [e] at e'
    cases e'
    exact ⟨cs, h1, rfl, hat⟩

theorem flat_at {size : Nat} : ∀ (css : List (List Value)) (k : Nat) (cs : List Value) (j : Nat) (v : Value), (∀ y ∈ css, y.length = size) → css[k]? = some cs → cs[j]? = some v → css.flatten[k * size + j]? = some v
  | [], k, cs, j, v, _, hk, _ => by simp at hk
  | y :: css, k, cs, j, v, hy, hk, hv => by
    have hly : y.length = size := hy y (by simp)
    cases k with
    | zero =>
      simp only [List.getElem?_cons_zero, Option.some.injEq] at hk
      subst hk
      have hj := (List.getElem?_eq_some_iff.1 hv).1
      rw [List.flatten_cons, List.getElem?_append_left (by omega)]
      simpa using hv
    | succ k =>
      rw [List.getElem?_cons_succ] at hk
      rw [List.flatten_cons, List.getElem?_append_right (by rw [hly, Nat.succ_mul]; omega), hly, Nat.succ_mul, show k * size + size + j - size = k * size + j by omega]
      exact flat_at css k cs j v (fun z hz => hy z (by simp [hz])) hk hv
theorem flat_len {size : Nat} : ∀ (css : List (List Value)), (∀ y ∈ css, y.length = size) → css.flatten.length = css.length * size
  | [], _ => by simp
  | y :: css, h => by
    rw [List.flatten_cons, List.length_append, h y (by simp), flat_len css fun z hz => h z (by simp [hz]), List.length_cons, Nat.succ_mul]; omega
theorem flat_get {size : Nat} (hs : 0 < size) (css : List (List Value)) (i : Nat) (v : Value) (h : ∀ y ∈ css, y.length = size) (hv : css.flatten[i]? = some v) : ∃ k cs j, css[k]? = some cs ∧ cs[j]? = some v ∧ i = k * size + j ∧ j < size := by
  have hi : i < css.length * size := by rw [← flat_len css h]; exact (List.getElem?_eq_some_iff.1 hv).1
  have hk : i / size < css.length := Nat.div_lt_of_lt_mul (by rw [Nat.mul_comm]; exact hi)
  have hj := Nat.mod_lt i hs
  have hc := List.getElem?_eq_getElem hk
  have hl := h _ (List.getElem_mem hk)
  have he : i = i / size * size + i % size := (Nat.div_add_mod' i size).symm
  have h2 := flat_at css (i / size) _ (i % size) _ h hc (List.getElem?_eq_getElem (by omega))
  rw [← he, hv] at h2
  exact ⟨i / size, css[i / size], i % size, hc, by rw [List.getElem?_eq_getElem (by omega), h2], he, hj⟩

theorem src_of_bare {size B n : Nat} (hs : 0 < size) {w : World} {A : Option Addr} {css : List (List Value)} (h : Rws Bare size w B A n css) (hl : ∀ cs ∈ css, cs.length = size) : Src w size A n css.flatten := by
  refine ⟨by rw [flat_len css hl, h.1], fun hn => ?_⟩
  obtain ⟨b, o, e, _, hr⟩ := h.2 hn
  refine ⟨⟨b, o, Option.none⟩, e, fun i u hu => ?_⟩
  obtain ⟨k, cs, j, hk, hj, rfl, _⟩ := flat_get hs css i u hl hu
  obtain ⟨cs', _, hb, hat⟩ := hr k cs hk
  cases hb
  rw [Addr.add_mid]
  have := hat j u hj
  rw [Nat.add_assoc] at this
  exact this
theorem bare_of_own {base size n c : Nat} {e : TypeId} {w : World} {A : Option Addr} {css : List (List Value)} (h : w.ownsRow base e size (.slice A n c) n css.flatten) (hn : css.length = n) (hl : ∀ cs ∈ css, cs.length = size) : Rws Bare size w w.heap.size A n css :=
  Rws.of_own (f := fun cs => cs) (by simpa using h) hn hl (fun _ _ => rfl)
theorem flat_one {css : List (List Value)} (h : ∀ cs ∈ css, ∀ v ∈ cs, v.oneCell' = true) : ∀ u ∈ css.flatten, u.oneCell' = true := by
  intro u hu
  obtain ⟨cs, hc, hm⟩ := List.mem_flatten.1 hu
  exact h cs hc u hm

theorem sliceNil' {α : Type} (R : World → Nat → List Value → α → Prop) (size : Nat) (w : World) (B : Nat) : SliceOf R size w B [.slice Option.none 0 0] [] := sliceNil R size w B
theorem relay_mute {w : World} {B : Nat} {cs : List Value} {r : RelayM} (h : RelayC w B cs r) : RelayC w B (cs.set 51 (.slice Option.none 0 0)) { r with pubs := [] } := by
  have hl := h.len
  obtain ⟨c1, e1, s1⟩ := h.rules
  obtain ⟨c2, e2, s2⟩ := h.sets
  obtain ⟨c4, e4, s4⟩ := h.subs
  refine ⟨by simpa using hl, fun v hv => ?_, ?_, h.nameLen, ?_, ⟨c1, ?_, s1⟩, ⟨c2, ?_, s2⟩, ⟨.slice Option.none 0 0, ?_, sliceNil' _ _ _ _⟩, ⟨c4, ?_, s4⟩⟩
  · rcases List.mem_or_eq_of_mem_set hv with h' | rfl
    · exact h.one v h'
    · rfl
  · rw [List.getElem?_set_ne (by decide)]; exact h.name
  · rw [List.getElem?_set_ne (by decide)]; exact h.kind
  · rw [List.getElem?_set_ne (by decide)]; exact e1
  · rw [List.getElem?_set_ne (by decide)]; exact e2
  · rw [List.getElem?_set_self (by omega)]
  · rw [List.getElem?_set_ne (by decide)]; exact e4

/-- The copy, with the publications of relay d struck, reads as the muted list. -/
theorem rws_mute {w W1 : World} {B n g d : Nat} {rs : List RelayM} {css : List (List Value)} (hr : Rws Bare 53 W1 W1.heap.size (some ⟨g, 0, Option.none⟩) n css) (hcs : ∀ (k : Nat) cs x, css[k]? = some cs → rs[k]? = some x → RelayC w B cs x)
    (hn : rs.length = n) (hB : B ≤ w.heap.size) (hb : Below w.heap.size w W1) (hg : w.heap.size ≤ g) :
    Rws RelayC 53 (W1.setCell ⟨g, d * 53 + 51, Option.none⟩ (.slice Option.none 0 0)) (W1.setCell ⟨g, d * 53 + 51, Option.none⟩ (.slice Option.none 0 0)).heap.size (some ⟨g, 0, Option.none⟩) n (muted rs d) := by
  have hb2 : Below w.heap.size w (W1.setCell ⟨g, d * 53 + 51, Option.none⟩ (.slice Option.none 0 0)) := hb.setCell (p := ⟨g, d * 53 + 51, Option.none⟩) hg _
  have hs2 := hb2.size
  refine ⟨by rw [muted_len, hn], fun hpos => ?_⟩
  obtain ⟨b, o, e, hlt, hat⟩ := hr.2 hpos
  cases e
  refine ⟨g, 0, rfl, by simpa using hlt, fun k x hx => ?_⟩
  rw [muted_at] at hx
  cases hrk : rs[k]? with
  | none => rw [hrk] at hx; cases hx
  | some r =>
    rw [hrk] at hx
    simp only [Option.map_some, Option.some.injEq] at hx
    subst hx
    have hk : k < css.length := by have := (List.getElem?_eq_some_iff.1 hrk).1; rw [hr.1]; omega
    obtain ⟨cs, hl, hbare, hrange⟩ := hat k _ (List.getElem?_eq_getElem hk)
    have hR := RelayC.mono _ _ _ _ _ _ (Nat.le_trans hB hs2) (hb2.mono hB) (hcs k _ r (List.getElem?_eq_getElem hk) hrk)
    rw [← hbare] at hR
    by_cases hdk : d = k
    · subst hdk
      simp only [if_true]
      refine ⟨cs.set 51 (.slice Option.none 0 0), by simpa using hl, relay_mute hR, fun j v hv => ?_⟩
      by_cases hj : j = 51
      · subst hj
        rw [List.getElem?_set_self (by omega)] at hv
        cases hv
        have hold := hrange 51 _ (List.getElem?_eq_getElem (show 51 < cs.length by omega))
        rw [Nat.zero_add] at hold ⊢
        exact World.cell?_setCell_same _ _ _ hold
      · rw [List.getElem?_set_ne (by omega)] at hv
        rw [World.cell?_setCell_other _ _ _ _ (by intro h; injection h with _ h _; omega)]
        exact hrange j v hv
    · rw [if_neg hdk]
      refine ⟨cs, hl, hR, fun j v hv => ?_⟩
      have hj := (List.getElem?_eq_some_iff.1 hv).1
      rw [World.cell?_setCell_other _ _ _ _ (by intro h; injection h with _ h _; omega)]
      exact hrange j v hv
theorem muted_small {rs : List RelayM} (h : SmallAll rs) (d : Nat) : SmallAll (muted rs d) := by
  refine ⟨by rw [muted_len]; exact h.1, fun r hr => ?_⟩
  obtain ⟨k, hk⟩ := List.getElem?_of_mem hr
  rw [muted_at] at hk
  cases hx : rs[k]? with
  | none => rw [hx] at hk; cases hk
  | some x =>
    rw [hx] at hk
    simp only [Option.map_some, Option.some.injEq] at hk
    have hs := h.2 x (List.mem_of_getElem? hx)
    by_cases hd : d = k
    · rw [if_pos hd] at hk; subst hk; exact ⟨hs.rules, hs.sets, Nat.zero_le _, hs.subs, hs.signals⟩
    · rw [if_neg hd] at hk; subst hk; exact hs
theorem find_in {rs : List RelayM} {relay sub : Int} (h : (FindP rs relay sub).2.2.2 = 0) : ∃ (i k : Nat) (r : RelayM) (x : SubM), relay = (i : Int) ∧ sub = (k : Int) ∧ rs[i]? = some r ∧ r.subs[k]? = some x ∧ subK rs i k = 0 := by
  have h' := h
  unfold FindP at h'
  by_cases h0 : relay < 0
  · simp [h0] at h'
  obtain ⟨i, rfl⟩ := Int.eq_ofNat_of_zero_le (by omega : 0 ≤ relay)
  simp only [h0, if_false, Int.toNat_natCast] at h'
  cases hr : rs[i]? with
  | none => rw [hr] at h'; simp at h'
  | some r =>
    rw [hr] at h'
    by_cases h1 : sub < 0
    · simp [h1] at h'
    obtain ⟨k, rfl⟩ := Int.eq_ofNat_of_zero_le (by omega : 0 ≤ sub)
    simp only [h1, if_false, Int.toNat_natCast] at h'
    cases hx : r.subs[k]? with
    | none => rw [hx] at h'; simp at h'
    | some x => exact ⟨i, k, r, x, rfl, rfl, hr, hx, h⟩

/-- Append, and that nothing but the row's own block may have changed. -/
theorem step_append_grown {P : Program} {w : World} {ops : Array Oper} {o : Oper} {a : Act} {K : Act → World → Prop} {Q : Exit → Act → World → Prop} {E : Prop} (s x : Operand) (t : TypeId)
    {base : Nat} {e : TypeId} {i : TypeInfo} {z : Value} {size bytes : Nat} {v : Value} {n : Nat} {xs : List Value} {A : Option Addr} {m c : Nat} {news : List Value} (hgd : o.guard = Option.none)
    (ho : o.op = .call { callee := .builtin .append, args := #[s, x], argTypes := #[t, t] })
    (ht : P.underlying t = some (.slice e)) (hi : P.info? e = some i) (hz : i.zero = some z) (hsize : i.size = size) (hby : i.bytes = bytes) (hzs : z.cells.size = size) (hsz : 0 < size)
    (hs : a.eval s = v) (hown : w.ownsRow base e size v n xs) (hx : a.eval x = .slice A m c) (hr : Src w size A m news) (h1 : ∀ u ∈ news, u.oneCell' = true)
    (h63 : n + m ≤ maxLen) (hbytes : (n + m) * bytes ≤ 140737488355328) (hbase : base ≤ w.heap.size)
    (h : ∀ v' w', w'.ownsRow base e size v' (n + m) (xs ++ news) → w.grownBy w' v.ownBlock → (v'.ownBlock = v.ownBlock ∨ v'.ownBlock = some w.heap.size) → K (a.put o.dst v') w') :
    if Region.wanted o (yielded ops a.tmps) = true then Oper.wp P o a w K Q else E := by
  have hw : Region.wanted o (yielded ops a.tmps) = true := by simp [Region.wanted, hgd]
  rw [if_pos hw]
  obtain ⟨v', w', hrun, h2, h3, h4⟩ := run_append_src (P := P) w base t o.type e i z size bytes ht hi hz hsize hby hzs hsz v n xs hown A m c news hr h1 h63 hbytes hbase
  unfold Oper.wp execOp
  simp only [ho, resolve, invoke, builtin, Sem.run_bind, Sem.run_pure, Result.andThen_ok, List.map_toArray, List.map_cons, List.map_nil, hs, hx, hrun]
  exact h v' w' h2 h3 h4

/-- A box of six cells, whole. -/
structure Box6 (W : World) (g : Nat) (t : TypeId) (z : Array Value) : Prop where
  at_ : W.heap[g]? = some (.cells z t (0, 0))
theorem Box6.lt {W : World} {g : Nat} {t : TypeId} {z : Array Value} (h : Box6 W g t z) : g < W.heap.size := by
  rcases Nat.lt_or_ge g W.heap.size with hl | hl
  · exact hl
  · have := h.at_; rw [Array.getElem?_eq_none hl] at this; cases this
theorem Box6.cell {W : World} {g : Nat} {t : TypeId} {z : Array Value} (h : Box6 W g t z) (j : Nat) : W.cell? ⟨g, j, Option.none⟩ = z[j]? := cell_of_row W g j z t (0, 0) h.at_
theorem Box6.free {W : World} {g : Nat} {t : TypeId} {z : Array Value} (h : Box6 W g t z) (j : Nat) : W.frozen? ⟨g, j, Option.none⟩ = false := frozen_of_row W g j z t h.at_
theorem Box6.grown {W W' : World} {g : Nat} {t : TypeId} {z : Array Value} {row : Option Nat} (h : Box6 W g t z) (hg : W.grownBy W' row) (hne : row ≠ some g) : Box6 W' g t z :=
  ⟨(hg.block g h.lt hne.symm).trans h.at_⟩
theorem Box6.new (w : World) (t : TypeId) (z : Array Value) : Box6 (w.alloc (.cells z t)) w.heap.size t z := ⟨heap_alloc_new w _⟩
theorem Box6.alloc {w : World} {g : Nat} {t : TypeId} {z : Array Value} (h : Box6 w g t z) (o : Obj) : Box6 (w.alloc o) g t z := ⟨(Below.heap_alloc w o g h.lt).trans h.at_⟩

/-- The new configuration: its box, and the copied relays. -/
def XAt (W5 : World) (t : TypeId) (n : Nat) (cells : List Value) (a0 a1 a2 a3 a4 : Value) (s11 : Value) (wx : World) : Prop :=
  ∃ g A c, s11 = .pointer (some ⟨g, 0, Option.none⟩) ∧ CB wx g a0 a1 a2 a3 a4 (.slice A n c) ∧ n ≤ c ∧ c ≤ maxLen ∧ wx.ownsRow W5.heap.size t 53 (.slice A n c) n cells ∧ Below W5.heap.size W5 wx ∧ W5.heap.size ≤ g ∧ (Value.slice A n c).ownBlock ≠ some g
theorem own_setCell {w : World} {base : Nat} {e : TypeId} {size n c : Nat} {A : Option Addr} {xs : List Value} (h : w.ownsRow base e size (.slice A n c) n xs) {g : Nat} (hne : (Value.slice A n c).ownBlock ≠ some g) (j : Nat) (u : Value) : (w.setCell ⟨g, j, Option.none⟩ u).ownsRow base e size (.slice A n c) n xs := by
  refine ⟨h.1, ?_⟩
  rcases h.2 with h | ⟨g', cap, cur, h1, h2, h3, h4⟩
  · exact .inl h
  · refine .inr ⟨g', cap, cur, h1, h2, ?_, h4⟩
    rw [heap_setCell_other w ⟨g, j, Option.none⟩ g' u ?_]
    · exact h3
    · intro he
      apply hne
      cases h1
      simp only at he
      simp [Value.ownBlock, he]
theorem xat_set {W5 w6 : World} {t tc : TypeId} {n g c : Nat} {A : Option Addr} {cells : List Value} {a0 a1 a2 a3 a4 z0 z1 z2 z3 z4 z5 : Value} (hbox : Box6 w6 g tc #[z0, z1, z2, z3, z4, z5]) (hn : n ≤ c) (hc : c ≤ maxLen)
    (hown : w6.ownsRow W5.heap.size t 53 (.slice A n c) n cells) (hb : Below W5.heap.size W5 w6) (hg : W5.heap.size ≤ g) (hne : (Value.slice A n c).ownBlock ≠ some g) :
    XAt W5 t n cells a0 a1 a2 a3 a4 (.pointer (some ⟨g, 0, Option.none⟩)) ((((((w6.setCell ⟨g, 0, Option.none⟩ a0).setCell ⟨g, 1, Option.none⟩ a1).setCell ⟨g, 2, Option.none⟩ a2).setCell ⟨g, 3, Option.none⟩ a3).setCell ⟨g, 4, Option.none⟩ a4).setCell ⟨g, 5, Option.none⟩ (.slice A n c)) := by
  have k0 := hbox.cell 0
  have k1 := hbox.cell 1
  have k2 := hbox.cell 2
  have k3 := hbox.cell 3
  have k4 := hbox.cell 4
  have k5 := hbox.cell 5
  have hl := hbox.lt
  simp only [List.getElem?_toArray, List.getElem?_cons_zero, List.getElem?_cons_succ] at k0 k1 k2 k3 k4 k5
  refine ⟨g, A, c, rfl, ⟨by simpa using hl, by go_simp, by go_simp, by go_simp, by go_simp, by go_simp, by go_simp⟩, hn, hc, ?_, ?_, hg, hne⟩
  · exact own_setCell (own_setCell (own_setCell (own_setCell (own_setCell (own_setCell hown hne _ _) hne _ _) hne _ _) hne _ _) hne _ _) hne _ _
  · exact (((((hb.setCell (p := ⟨g, 0, Option.none⟩) hg _).setCell (p := ⟨g, 1, Option.none⟩) hg _).setCell (p := ⟨g, 2, Option.none⟩) hg _).setCell (p := ⟨g, 3, Option.none⟩) hg _).setCell (p := ⟨g, 4, Option.none⟩) hg _).setCell (p := ⟨g, 5, Option.none⟩) hg _
theorem ne_of_or {α : Type} {a b c d : α} (h : a = b ∨ a = c) (h1 : b ≠ d) (h2 : c ≠ d) : a ≠ d := by
  rcases h with h | h <;> rw [h] <;> assumption
theorem cell_set6 {w : World} {g h j : Nat} {a0 a1 a2 a3 a4 a5 v : Value} (hne : h ≠ g) (hc : w.cell? ⟨h, j, Option.none⟩ = some v) :
    ((((((w.setCell ⟨g, 0, Option.none⟩ a0).setCell ⟨g, 1, Option.none⟩ a1).setCell ⟨g, 2, Option.none⟩ a2).setCell ⟨g, 3, Option.none⟩ a3).setCell ⟨g, 4, Option.none⟩ a4).setCell ⟨g, 5, Option.none⟩ a5).cell? ⟨h, j, Option.none⟩ = some v := by
  have hn : ∀ i, (⟨g, i, Option.none⟩ : Addr) ≠ ⟨h, j, Option.none⟩ := fun i e => hne (by injection e with e; exact e.symm)
  rw [World.cell?_setCell_other _ _ _ _ (hn 5), World.cell?_setCell_other _ _ _ _ (hn 4), World.cell?_setCell_other _ _ _ _ (hn 3), World.cell?_setCell_other _ _ _ _ (hn 2), World.cell?_setCell_other _ _ _ _ (hn 1), World.cell?_setCell_other _ _ _ _ (hn 0)]
  exact hc
end Go.Proofs.YtfncnhgopbmabaaDoor
