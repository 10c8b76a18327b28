/-
  Where an event is put in; a list with an event more; slices.Clone of events; Record of the program.
-/
import Derived.Test.YtcoablindoknpaaDoorRValid
namespace Go.Proofs.YtcoablindoknpaaDoor
open Go.RowKit

theorem infoEv : (Tryd.prog.info? 26).map (fun i => (i.zero, i.size, i.bytes)) = some (some (.agg #[.int .i64 0, .int .i64 0, .int .i64 0, .bool false, .int .i64 0]), 5, 40) := by kernel_rfl
def evCells (es : List Ev) : List Value := es.flatMap Ev.cells
theorem evCells_len (es : List Ev) : (evCells es).length = es.length * 5 := by
  induction es with
  | nil => rfl
  | cons e es ih => unfold evCells at *; rw [List.flatMap_cons, List.length_append, ih, List.length_cons]; simp [Ev.cells]; omega
theorem evCells_one (es : List Ev) : ∀ u ∈ evCells es, u.oneCell' = true := by
  intro u hu
  obtain ⟨e, _, h⟩ := List.mem_flatMap.1 hu
  simp only [Ev.cells, List.mem_cons, List.not_mem_nil, or_false] at h
  rcases h with rfl | rfl | rfl | rfl | rfl <;> rfl
theorem ev_one (e : Ev) : ∀ u ∈ (#[.int .i64 e.time, .int .i64 e.device, .int .i64 e.signal, .bool e.value, .int .i64 e.quality] : Array Value).toList, u.oneCell' = true := by
  intro u h
  simp only [List.mem_cons, List.not_mem_nil, or_false] at h
  rcases h with rfl | rfl | rfl | rfl | rfl <;> rfl
theorem evCells_append (a b : List Ev) : evCells (a ++ b) = evCells a ++ evCells b := by simp [evCells]
theorem evCells_nil : evCells [] = [] := rfl
theorem evCells_one' (e : Ev) : evCells [e] = e.cells := by simp [evCells]
theorem evCells_at {es : List Ev} {k : Nat} {e : Ev} (h : es[k]? = some e) (j : Nat) (v : Value) (hj : e.cells[j]? = some v) : (evCells es)[k * 5 + j]? = some v := by
  induction es generalizing k with
  | nil => simp at h
  | cons x es ih =>
    have hl : x.cells.length = 5 := rfl
    unfold evCells
    rw [List.flatMap_cons]
    cases k with
    | zero =>
      simp only [List.getElem?_cons_zero, Option.some.injEq] at h
      subst h
      have : j < 5 := (List.getElem?_eq_some_iff.1 hj).1
      rw [List.getElem?_append_left (by omega)]
      simpa using hj
    | succ k =>
      rw [List.getElem?_cons_succ] at h
      rw [List.getElem?_append_right (by rw [hl, Nat.succ_mul]; omega), hl, Nat.succ_mul, show k * 5 + 5 + j - 5 = k * 5 + j by omega]
      exact ih h
theorem evCells_get {es : List Ev} {i : Nat} {v : Value} (h : (evCells es)[i]? = some v) : ∃ k e j, es[k]? = some e ∧ e.cells[j]? = some v ∧ i = k * 5 + j := by
  have hi : i < es.length * 5 := by rw [← evCells_len]; exact (List.getElem?_eq_some_iff.1 h).1
  have hk : i / 5 < es.length := by omega
  have hc := List.getElem?_eq_getElem hk
  have h2 := evCells_at hc (i % 5) _ (List.getElem?_eq_getElem (show i % 5 < es[i / 5].cells.length from Nat.mod_lt _ (by decide)))
  rw [show i / 5 * 5 + i % 5 = i by omega, h] at h2
  exact ⟨i / 5, es[i / 5], i % 5, hc, by rw [List.getElem?_eq_getElem (show i % 5 < es[i / 5].cells.length from Nat.mod_lt _ (by decide)), h2], by omega⟩
theorem src_of_rws {w : World} {B n : Nat} {A : Option Addr} {es : List Ev} (h : Rws EvC 5 w B A n es) : Src w 5 A n (evCells es) := by
  refine ⟨by rw [evCells_len, h.1], fun hn => ?_⟩
  obtain ⟨b, o, e, _, hr⟩ := h.2 hn
  refine ⟨⟨b, o, Option.none⟩, e, fun i u hu => ?_⟩
  obtain ⟨k, x, j, hk, hj, rfl⟩ := evCells_get hu
  obtain ⟨cs, _, rfl, hat⟩ := hr k x hk
  rw [Addr.add_mid]
  have := hat j u hj
  rw [Nat.add_assoc] at this
  exact this
theorem rws_take {α : Type} {R : World → Nat → List Value → α → Prop} {size B n : Nat} {w : World} {A : Option Addr} {xs : List α} (h : Rws R size w B A n xs) (k : Nat) (hk : k ≤ n) : Rws R size w B A k (xs.take k) := by
  refine ⟨by rw [List.length_take, h.1]; omega, fun hp => ?_⟩
  obtain ⟨b, o, e, hlt, hr⟩ := h.2 (by omega)
  refine ⟨b, o, e, hlt, fun j x hx => hr j x ?_⟩
  rw [List.getElem?_take] at hx
  split at hx
  · exact hx
  · cases hx
theorem rws_drop {α : Type} {R : World → Nat → List Value → α → Prop} {size B n : Nat} {w : World} {b o : Nat} {xs : List α} (h : Rws R size w B (some ⟨b, o, Option.none⟩) n xs) (k : Nat) (hk : k ≤ n) : Rws R size w B (some ⟨b, o + k * size, Option.none⟩) (n - k) (xs.drop k) := by
  refine ⟨by rw [List.length_drop, h.1], fun hp => ?_⟩
  obtain ⟨b', o', e, hlt, hr⟩ := h.2 (by omega)
  cases e
  refine ⟨b, o + k * size, rfl, hlt, fun j x hx => ?_⟩
  rw [List.getElem?_drop] at hx
  obtain ⟨cs, h1, h2, h3⟩ := hr (k + j) x hx
  refine ⟨cs, h1, h2, ?_⟩
  rw [show o + k * size + j * size = o + (k + j) * size by rw [Nat.add_mul]; omega]
  exact h3
theorem rws_none {α : Type} (R : World → Nat → List Value → α → Prop) (size : Nat) (w : World) (B : Nat) (A : Option Addr) : Rws R size w B A 0 [] := ⟨rfl, fun h => absurd h (Nat.lt_irrefl _)⟩
theorem rws_of_ev {base n c : Nat} {w : World} {A : Option Addr} {es : List Ev} {t : TypeId} (h : w.ownsRow base t 5 (.slice A n c) n (evCells es)) (hn : es.length = n) : Rws EvC 5 w w.heap.size A n es :=
  Rws.of_own h hn (fun _ _ => rfl) (fun _ _ => rfl)

theorem src_take {w : World} {B n : Nat} {A : Option Addr} {es : List Ev} (h : Rws EvC 5 w B A n es) {k : Nat} (hk : k ≤ n) : Src w 5 A k (evCells (es.take k)) := src_of_rws (rws_take h k hk)
theorem src_drop {w : World} {B n : Nat} {ad : Addr} {es : List Ev} (h : Rws EvC 5 w B (some ad) n es) {k : Nat} (hk : k ≤ n) : Src w 5 (some (ad.add (k * 5))) (n - k) (evCells (es.drop k)) := by
  rcases Nat.eq_zero_or_pos (n - k) with h0 | h0
  · have : es.drop k = [] := List.drop_eq_nil_of_le (by rw [h.1]; omega)
    rw [this, h0]
    exact ⟨rfl, fun h => absurd h (Nat.lt_irrefl _)⟩
  · obtain ⟨b, o, e, _, _⟩ := h.2 (by omega)
    cases e
    have := src_of_rws (rws_drop h k hk)
    rw [Addr.add_mid]
    exact this
theorem src_zero {w : World} {B n : Nat} {A A' : Option Addr} {es : List Ev} (h : Rws EvC 5 w B A n es) {k : Nat} (hk : n ≤ k) : Src w 5 A' (n - k) (evCells (es.drop k)) := by
  have : es.drop k = [] := List.drop_eq_nil_of_le (by rw [h.1]; omega)
  rw [this, show n - k = 0 by omega]
  exact ⟨rfl, fun h => absurd h (Nat.lt_irrefl _)⟩
theorem own_setCell {w : World} {base : Nat} {e : TypeId} {size n : Nat} {v : Value} {xs : List Value} (h : w.ownsRow base e size v n xs) {g : Nat} (hg : g < base) (j : Nat) (u : Value) : (w.setCell ⟨g, j, Option.none⟩ u).ownsRow base e size v n xs := by
  refine ⟨h.1, ?_⟩
  rcases h.2 with h | ⟨g', cap, cur, h1, h2, h3, h4⟩
  · exact .inl h
  · refine .inr ⟨g', cap, cur, h1, h2, ?_, h4⟩
    rw [heap_setCell_other w ⟨g, j, Option.none⟩ g' u (by simp only; omega)]
    exact h3

/-- The place where e goes, sought from place k down. -/
def insPos (e : Ev) (l : List Ev) : Nat → Nat
  | 0 => 0
  | k + 1 => match l[k]? with
    | Option.none => k + 1
    | some p => if beforeB e p then insPos e l k else k + 1
theorem insPos_le (e : Ev) (l : List Ev) : ∀ k, insPos e l k ≤ k
  | 0 => Nat.le_refl _
  | k + 1 => by
    unfold insPos
    split
    · exact Nat.le_refl _
    · split
      · exact Nat.le_succ_of_le (insPos_le e l k)
      · exact Nat.le_refl _
theorem insPos_down {e p : Ev} {l : List Ev} {k : Nat} (hk : 0 < k) (hp : l[k - 1]? = some p) (hb : beforeB e p = true) : insPos e l k = insPos e l (k - 1) := by
  obtain ⟨j, rfl⟩ : ∃ j, k = j + 1 := ⟨k - 1, by omega⟩
  simp only [Nat.add_sub_cancel] at hp ⊢
  simp [insPos, hp, hb]
theorem insPos_stop {e p : Ev} {l : List Ev} {k : Nat} (hk : 0 < k) (hp : l[k - 1]? = some p) (hb : beforeB e p = false) : insPos e l k = k := by
  obtain ⟨j, rfl⟩ : ∃ j, k = j + 1 := ⟨k - 1, by omega⟩
  simp only [Nat.add_sub_cancel] at hp ⊢
  simp [insPos, hp, hb]
def pos (e : Ev) (l : List Ev) : Nat := insPos e l l.length
def insE (l : List Ev) (e : Ev) : List Ev := l.take (pos e l) ++ e :: l.drop (pos e l)
theorem insE_len (l : List Ev) (e : Ev) : (insE l e).length = l.length + 1 := by
  have := insPos_le e l l.length
  simp only [insE, pos, List.length_append, List.length_take, List.length_cons, List.length_drop]
  omega
theorem insE_cells (l : List Ev) (e : Ev) : evCells (insE l e) = evCells (l.take (pos e l)) ++ e.cells ++ evCells (l.drop (pos e l)) := by
  unfold insE
  rw [evCells_append]
  simp [evCells]

def zeroLog : LogM := { room := 0, events := [], lost := 0, floor := 0 }
def recP (g : LogM) (e : Ev) : LogM × Int :=
  if validB g = false ∨ goodB e = false then (zeroLog, 1) else if e.time < g.floor then (zeroLog, 18) else
  if g.room < ((insE g.events e).length : Int) then ({ room := g.room, events := (insE g.events e).drop 1, lost := min (g.lost + 1) 1000000000, floor := ((insE g.events e)[0]?.map (·.time)).getD 0 }, 0)
  else ({ g with events := insE g.events e }, 0)

/-- A log and an error are returned; old memory is as it was. -/
def RetLog (p : LogM × Int) (w : World) (e : Ending) (w' : World) : Prop :=
  ∃ A c, e = .returned (.tuple #[.agg #[.int .i64 p.1.room, .slice A p.1.events.length c, .int .i64 p.1.lost, .int .i64 p.1.floor], .int .i64 p.2]) ∧ p.1.events.length ≤ c ∧ c ≤ maxLen ∧ (A = Option.none → c = 0) ∧ (∀ ad, A = some ad → w.heap.size ≤ ad.block) ∧ Rws EvC 5 w' w'.heap.size A p.1.events.length p.1.events ∧ Below w.heap.size w w'

set_option maxRecDepth 100000 in
theorem clone_any (A : Option Addr) (c n : Nat) (cells : List Value) (w : World) (hs : Src w 5 A n cells) (hA : A = Option.none → n = 0) (h1 : ∀ u ∈ cells, u.oneCell' = true) (hn : n ≤ 100000) :
    Calls Tryd.prog 34 #[.slice A n c] w (RetRow 26 5 n cells w) := by
  obtain ⟨i0, hi, hz0, hz1, hz2⟩ := info_parts infoEv
  have hnil := fun wx => Lib.run_eql_slice_nil (P := Tryd.prog) wx 22 26 A n c 0 0 Tryd.underlying22
  cases A with
  | none =>
    obtain rfl := hA rfl
    have hc : cells = [] := List.eq_nil_of_length_eq_zero (by simpa using hs.1)
    subst hc
    go_enter Tryd.func34, Tryd.ntmps34
    go_wp2
    go_ret
    exact RetRow.mk (World.ownsRow_nil _ w.heap.size _ _) (Nat.le_refl _) (Below.refl _ _)
  | some ad =>
    have hs2 : Src (w.alloc (Obj.cells #[] 26)) 5 (some ad) n cells := ⟨hs.1, fun hpos => by
      obtain ⟨ad', e, hcell⟩ := hs.2 hpos
      exact ⟨ad', e, fun j u hu => by rw [World.cell?_alloc_lt w _ _ (block_lt_of_cell (hcell j u hu))]; exact hcell j u hu⟩⟩
    have hown : (w.alloc (Obj.cells #[] 26)).ownsRow w.heap.size 26 5 (.slice (some ⟨w.heap.size, 0, Option.none⟩) 0 0) 0 [] := World.ownsRow_made w #[] 0 (Nat.le_refl _) (Nat.zero_le _) rfl
    have hb := box_below w (Obj.cells #[] 26)
    have HS := Lib.hid hs2
    have HO := Lib.hid hown
    clear hs hs2 hown hA
    go_enter Tryd.func34, Tryd.ntmps34
    go_wp2_with (first
      | (at_builtin; refine wpList_append_src _ _ 22 rfl rfl Tryd.underlying22 hi hz0 hz1 hz2 rfl (by decide) rfl HO.out hb rfl HS.out h1 (by unfold maxLen; omega) (by omega) (by simp) ?_; intro v' w' hown' hbel' _))
    go_ret
    exact RetRow.mk (by simpa using hown') (Nat.le_refl _) hbel'
end Go.Proofs.YtcoablindoknpaaDoor
