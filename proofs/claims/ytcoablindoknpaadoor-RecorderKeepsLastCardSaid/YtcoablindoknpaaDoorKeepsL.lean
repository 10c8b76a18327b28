/-
  The law RecorderKeepsLast: for every room and every list of events the call returns true.
-/
import Derived.Test.YtcoablindoknpaaDoorMerge
namespace Go.Proofs.YtcoablindoknpaaDoor
open Go.RowKit

/-- As wpList_push; every other block is as it was. -/
theorem wpList_push_other {P : Program} {ops : Array Oper} {rest : List Oper} {o : Oper} {a : Act} {Q : Exit → Act → World → Prop} (s x : Operand) (t : TypeId) {base : Nat} {e : TypeId} {i : TypeInfo} {z : Value} {size bytes : Nat}
    {v : Value} {n : Nat} {xs : List Value} {w1 wr : World} {news : Array Value} (hgd : o.guard = Option.none)
    (ho : o.op = .call { callee := .builtin .append, args := #[s, x], argTypes := #[t, t] })
    (ht : P.underlying t = some (.slice e)) (hi : P.info? e = some i) (hz : i.zero = some z) (hsize : i.size = size) (hby : i.bytes = bytes) (hzs : z.cells.size = size) (hsz : 0 < size)
    (hs : a.eval s = v) (hown : wr.ownsRow base e size v n xs) (hbel : Below base w1 wr) (H : Nat) (hH : wr.heap.size = H) (hx : a.eval x = .slice (some ⟨H, 0, Option.none⟩) 1 1) (hn : news.size = size) (h1 : ∀ u ∈ news.toList, u.oneCell' = true)
    (hbytes : (n + 1) * bytes ≤ 140737488355328) (hmax : n + 1 ≤ maxLen) (hbase : base ≤ wr.heap.size)
    (h : ∀ v' w', w'.ownsRow base e size v' (n + 1) (xs ++ news.toList) → Below base w1 w' → wr.heap.size ≤ w'.heap.size → (∀ b, b < wr.heap.size → v.ownBlock ≠ some b → w'.heap[b]? = wr.heap[b]?) → wpList P ops Q rest (a.put o.dst v') w') :
    wpList P ops Q (o :: rest) a (wr.alloc (.cells news e)) := by
  subst hH
  have hb1 : Below base w1 (wr.alloc (.cells news e)) := hbel.alloc hbase _
  refine wpList_append_own_at _ hgd s x t ho base e i z size bytes ht hi hz hsize hby hzs hsz v n xs hs (hown.alloc _) ⟨wr.heap.size, 0, Option.none⟩ 1 1 news.toList hx (by simp [hn]) ?_ h1 hmax hbytes (by simp; omega) ?_
  · intro j u hu
    have h2 := cell_of_row (wr.alloc (.cells news e)) wr.heap.size j news e (0, 0) (heap_alloc_new wr _)
    rw [Addr.add_mid, Nat.zero_add, h2]
    simpa using hu
  · intro v' w' hown' hg _ hat
    have hsz' := hg.size
    simp only [World.size_alloc] at hsz'
    refine h v' w' hown' (hb1.grown hg (by simp; omega) fun k hk => ?_) (by omega) fun b hb hne => ?_
    · exact (hown.lt k hk).1
    · rw [hg.block b (by simp; omega) (Ne.symm hne)]
      exact Below.heap_alloc _ _ _ hb

theorem rws_block {w w' : World} {B B' n : Nat} {A : Option Addr} {es : List Ev} (h : Rws EvC 5 w B A n es) (hB : B ≤ B') (hA : ∀ b o, A = some ⟨b, o, Option.none⟩ → b < B → w'.heap[b]? = w.heap[b]?) : Rws EvC 5 w' B' A n es := by
  refine ⟨h.1, fun hn => ?_⟩
  obtain ⟨b, o, e, hlt, hr⟩ := h.2 hn
  refine ⟨b, o, e, Nat.lt_of_lt_of_le hlt hB, fun k x hx => ?_⟩
  obtain ⟨cs, h1, h2, h3⟩ := hr k x hx
  refine ⟨cs, h1, h2, fun i u hu => ?_⟩
  have := h3 i u hu
  simp only [World.cell?] at this ⊢
  rw [hA b o e hlt]
  exact this
theorem own_lt {w : World} {base : Nat} {e : TypeId} {size n : Nat} {v : Value} {xs : List Value} (h : w.ownsRow base e size v n xs) {b : Nat} (hb : w.heap.size ≤ b) : v.ownBlock ≠ some b := by
  intro he
  have := (h.lt b he).2
  omega
theorem rws_one {w : World} {A : Option Addr} {c B : Nat} {es : List Ev} (t : TypeId) (h : Rws EvC 5 w B A es.length es) (hB : B ≤ w.heap.size) (h1 : es.length ≤ c) (h2 : c ≤ maxLen) : Rws (SliceOf EvC 5) 1 (w.alloc (Obj.cells #[.slice A es.length c] t)) (w.heap.size + 1) (some ⟨w.heap.size, 0, Option.none⟩) 1 [es] := by
  refine ⟨rfl, fun _ => ⟨w.heap.size, 0, rfl, Nat.lt_succ_self _, fun k x hx => ?_⟩⟩
  have hk : k = 0 := by
    have := (List.getElem?_eq_some_iff.1 hx).1
    simp at this
    exact this
  subst hk
  simp only [List.getElem?_cons_zero, Option.some.injEq] at hx
  subst hx
  refine ⟨[.slice A es.length c], rfl, ⟨A, c, rfl, h1, h2, h.mono EvC.mono (by omega) ((box_below w _).mono hB)⟩, fun j v hv => ?_⟩
  have hj : j = 0 := by
    have := (List.getElem?_eq_some_iff.1 hv).1
    simp at this
    exact this
  subst hj
  simp only [List.getElem?_cons_zero, Option.some.injEq] at hv
  subst hv
  go_simp

theorem rws_drop_if {w : World} {B n c : Nat} {ad : Addr} {es : List Ev} (h : Rws EvC 5 w B (some ad) n es) {k : Nat} (hk : k ≤ n) (hc : n ≤ c) : Rws EvC 5 w B (if c = k then some ad else some (ad.add (k * 5))) (n - k) (es.drop k) := by
  rcases Nat.eq_zero_or_pos (n - k) with h0 | h0
  · rw [List.drop_eq_nil_of_le (by rw [h.1]; omega), h0]
    exact rws_none _ _ _ _ _
  · rw [if_neg (by omega)]
    obtain ⟨b, o, e, _, _⟩ := h.2 (by omega)
    cases e
    rw [Addr.add_mid]
    exact rws_drop h k hk

/-- The loop: acc are the accepted of the first k events. -/
structure KpS (w : World) (b0 : Nat) (room : Int) (k : Nat) (acc : List Ev) (g : LogM) (Ag : Option Addr) (cg : Nat) (v : Value) (wr : World) : Prop where
  few : acc.length ≤ k
  keep : Keep room (insAll [] acc) g
  own : wr.ownsRow (b0 + 1) 26 5 v acc.length (evCells acc)
  box : LZ wr b0 g Ag cg
  hc : g.events.length ≤ cg
  nil : Ag = Option.none → cg = 0
  rws : Rws EvC 5 wr wr.heap.size Ag g.events.length g.events
  bel : Below w.heap.size w wr
  low : w.heap.size ≤ b0
def KpR (w : World) (b0 : Nat) (room : Int) (es : List Ev) (v i : Value) (wr : World) : Prop := ∃ k : Nat, k ≤ es.length ∧ i = .int .i64 k ∧ ∃ acc g Ag cg, KpS w b0 room k acc g Ag cg v wr

theorem KpS.skip {w : World} {b0 k : Nat} {room : Int} {acc : List Ev} {g : LogM} {Ag : Option Addr} {cg : Nat} {v : Value} {wr w' : World} (h : KpS w b0 room k acc g Ag cg v wr) (hb : Below wr.heap.size wr w') : KpS w b0 room (k + 1) acc g Ag cg v w' :=
  ⟨Nat.le_succ_of_le h.few, h.keep, own_below h.own hb (Nat.le_refl _), h.box.below hb h.box.lt, h.hc, h.nil, h.rws.mono EvC.mono hb.size hb, h.bel.trans (hb.mono h.bel.size), h.low⟩

set_option maxRecDepth 100000 in
set_option maxHeartbeats 4000000 in
theorem keeps_any (room : Int) (A : Option Addr) (c B : Nat) (es : List Ev) (w : World) (T : Tab w) (hB : B ≤ w.heap.size) (hr : Rws EvC 5 w B A es.length es) (hm : es.length ≤ maxLen) :
    Calls Tryd.prog 4 #[.int .i64 room, .slice A es.length c] w (RetBool true w) := by
  have HT := Lib.hid T
  have HR := Lib.hid hr
  clear T hr
  go_enter Tryd.func4, Tryd.ntmps4
  go_wp2_with fail
  refine (few_any A c es.length _ hm).mono ?_
  rintro e' w2 ⟨rfl, rfl⟩
  by_cases hfew : es.length ≤ 60
  case neg =>
    have d0 : decide (es.length ≤ 60) = false := by simpa using hfew
    go_wp2_with fail
    refine (known_any _ HT.out).mono ?_
    rintro e' w3 ⟨rfl, hb3⟩
    go_wp2
    go_ret
    exact ⟨rfl, hb3⟩
  have d0 : decide (es.length ≤ 60) = true := by simpa using hfew
  go_wp2_with fail
  refine (new_any room w).mono ?_
  by_cases hroom : room < 1 ∨ 512 < room
  · have e0 : newP room = (zeroLog, 1) := by simp only [newP, hroom, if_true]
    rw [e0]
    rintro e' w1 ⟨A1, c1, rfl, -, -, -, -, -, hb1⟩
    dsimp only [zeroLog, List.length_nil]
    have hbx := hb1.trans ((box_below w1 (Obj.cells #[.int .i64 0, .slice A1 0 c1, .int .i64 0, .int .i64 0] 24)).mono hb1.size)
    by_cases h1 : room < 1
    · go_wp2_with fail
      refine (known_any _ (HT.out.below hbx)).mono ?_
      rintro e' w3 ⟨rfl, hb3⟩
      go_wp2
      go_ret
      exact ⟨rfl, hbx.trans (hb3.mono hbx.size)⟩
    · have h2 : 512 < room := by omega
      go_wp2_with fail
      refine (known_any _ (HT.out.below hbx)).mono ?_
      rintro e' w3 ⟨rfl, hb3⟩
      go_wp2
      go_ret
      exact ⟨rfl, hbx.trans (hb3.mono hbx.size)⟩
  have hr1 : 1 ≤ room := by omega
  have hr2 : room ≤ 512 := by omega
  have e0 : newP room = ({ room := room, events := [], lost := 0, floor := 0 }, 0) := by simp only [newP, hroom, if_false]
  rw [e0]
  clear e0 hroom
  have K0 := keep_new hr1 hr2
  rintro e' w1 ⟨A1, c1, rfl, hc1, hm1, hA1, hN1, hrw1, hb1⟩
  have Z0 := LZ.new w1 { room := room, events := [], lost := 0, floor := 0 } A1 c1 24
  have S0 : KpS w w1.heap.size room 0 [] { room := room, events := [], lost := 0, floor := 0 } A1 c1 (.slice Option.none 0 0) (w1.alloc (Obj.cells #[.int .i64 room, .slice A1 0 c1, .int .i64 0, .int .i64 0] 24)) :=
    ⟨Nat.le_refl _, K0, World.ownsRow_nil _ _ _ _, Z0, hc1, hA1, hrw1.mono EvC.mono (by simp) (box_below _ _), hb1.trans ((box_below _ _).mono hb1.size), hb1.size⟩
  have HS0 := Lib.hid S0
  dsimp only [List.length_nil]
  clear Z0 S0 K0 hN1 hrw1 hA1 hc1 hm1
  go_wp2
  generalize w1.alloc (Obj.cells #[.int .i64 room, .slice A1 0 c1, .int .i64 0, .int .i64 0] 24) = W1 at *
  generalize w1.heap.size = b0 at *
  go_loopw [7, 39] (KpR w b0 room es) (fun _ i _ => es.length - (intOf i).toNat)
  case atStart => exact ⟨0, Nat.zero_le _, rfl, _, _, _, _, HS0.out⟩
  case round =>
    obtain ⟨k, hk, rfl, acc, g, Ag, cg, hS⟩ := hrel
    have HS := Lib.hid hS
    clear hS HS0
    have hsz := HS.out.bel.size
    have hl0 := HS.out.box.lt
    have hlow := HS.out.low
    have hfw := HS.out.few
    obtain ⟨Av, cv, rfl, hcv, hmv⟩ := own_shape HS.out.own
    by_cases hlt : k < es.length
    · obtain ⟨b, o, x, rfl, hbB, -, E0⟩ := evAt HR.out hlt
      obtain ⟨r0, r1, r2, r3, r4⟩ := E0.below (HS.out.bel.mono hB) hbB
      have hbx := box_below wr (Obj.cells #[.int .i64 x.time, .int .i64 x.device, .int .i64 x.signal, .bool x.value, .int .i64 x.quality] 26)
      have EX := EB.new wr x 26
      have ZX := HS.out.box.below hbx hl0
      have hsX : (wr.alloc (Obj.cells #[.int .i64 x.time, .int .i64 x.device, .int .i64 x.signal, .bool x.value, .int .i64 x.quality] 26)).heap.size = wr.heap.size + 1 := by simp
      have C := record_any Ag cg wr.heap.size g x _ hbx.size (HS.out.rws.mono EvC.mono (Nat.le_refl _) hbx) HS.out.hc HS.out.nil
      have hcases := recP_cases HS.out.keep.val x
      have hstep := fun h1 h2 => keep_step (e := x) HS.out.keep (by rw [insAll_len]; simp; omega) h1 h2
      unfold Ev.cells at C
      generalize recP g x = p at *
      obtain ⟨g3, code⟩ := p
      have HC := Lib.hid C
      have HCA := Lib.hid hcases
      have HST := Lib.hid hstep
      clear C hcases hstep E0
      obtain ⟨⟨-, p0, p1, p2, p3⟩, -, -, -, -⟩ := id ZX
      go_wp2_with fail
      refine HC.out.mono ?_
      rintro e' w3 ⟨A3, c3, rfl, hc3, hm3, hA3, hN3, hr3, hb3⟩
      rw [hsX] at hN3
      have hs3 := hb3.size
      rw [hsX] at hs3
      have hbx4 := box_below w3 (Obj.cells #[.int .i64 g3.room, .slice A3 g3.events.length c3, .int .i64 g3.lost, .int .i64 g3.floor] 24)
      have hbX4 := hb3.trans (hbx4.mono hb3.size)
      have hb04 := hbx.trans (hbX4.mono hbx.size)
      have Z4 := ZX.below hbX4 (by rw [hsX]; omega)
      have E4 := EX.below hbX4 (by rw [hsX]; omega)
      have G4 := LB.new w3 g3 A3 c3 24
      clear p0 p1 p2 p3 r0 r1 r2 r3 r4 HC
      have HC := HCA.out
      go_upto_region 11 with fail
      rcases HC with ⟨rfl, hg⟩ | ⟨rfl, ht⟩ | ⟨rfl, hg, ht⟩
      · have CG := fun W => rgood_any x W
        rw [hg] at CG
        unfold Ev.cells at CG
        have HCG := Lib.hid CG
        clear CG
        obtain ⟨q0, q1, q2, q3, q4⟩ := id E4
        go_wp2_with fail
        refine (HCG.out _).mono ?_
        rintro e' w5 ⟨rfl, hb5⟩
        have hb05 := hb04.trans (hb5.mono hb04.size)
        clear q0 q1 q2 q3 q4
        go_wp2
        go_roundw
        case rel => exact ⟨k + 1, by omega, by go_num, acc, g, Ag, cg, HS.out.skip hb05⟩
        case measure => simp [intOf]; omega
      · obtain ⟨q0, q1, q2, q3, q4⟩ := id E4
        obtain ⟨⟨-, p0, p1, p2, p3⟩, -, -, -, -⟩ := id Z4
        go_wp2
        go_roundw
        case rel => exact ⟨k + 1, by omega, by go_num, acc, g, Ag, cg, HS.out.skip hb04⟩
        case measure => simp [intOf]; omega
      · have hkeep := HST.out hg ht
        have HKP := Lib.hid hkeep
        clear hkeep
        obtain ⟨q0, q1, q2, q3, q4⟩ := id E4
        obtain ⟨⟨-, p0, p1, p2, p3⟩, y0, y1, y2, y3⟩ := id Z4
        obtain ⟨-, f0, f1, f2, f3⟩ := id G4
        have hs4 : w3.heap.size + 1 ≤ (w3.alloc (Obj.cells #[.int .i64 g3.room, .slice A3 g3.events.length c3, .int .i64 g3.lost, .int .i64 g3.floor] 24)).heap.size := by simp
        have ow4 := own_below HS.out.own hb04 (Nat.le_refl _)
        have rw4 := hr3.mono EvC.mono (Nat.le_refl _) hbx4
        have hlt4 : b0 < w3.heap.size := by omega
        have hN4 : ∀ b o, A3 = some ⟨b, o, Option.none⟩ → b0 + 1 ≤ b := fun b o h => by have := hN3 _ h; simp only at this; omega
        have hbw4 := HS.out.bel.trans (hb04.mono hsz)
        have hblk : ∀ b o, A3 = some ⟨b, o, Option.none⟩ → wr.heap.size ≤ b := fun b o h => by have := hN3 _ h; simp only at this; omega
        clear hN3 hr3 Z4 E4 G4 EX ZX hbx4 hbX4
        generalize w3.alloc (Obj.cells #[.int .i64 g3.room, .slice A3 g3.events.length c3, .int .i64 g3.lost, .int .i64 g3.floor] 24) = W4 at *
        have ow5 := own_setCell (g := b0) (own_setCell (g := b0) (own_setCell (g := b0) (own_setCell (g := b0) ow4 (Nat.lt_succ_self _) 0 (.int .i64 g3.room)) (Nat.lt_succ_self _) 1 (.slice A3 g3.events.length c3)) (Nat.lt_succ_self _) 2 (.int .i64 g3.lost)) (Nat.lt_succ_self _) 3 (.int .i64 g3.floor)
        have rw5 := rws_set (g := b0) (base := b0 + 1) (j := 3) (v := .int .i64 g3.floor) (rws_set (g := b0) (base := b0 + 1) (j := 2) (v := .int .i64 g3.lost) (rws_set (g := b0) (base := b0 + 1) (j := 1) (v := .slice A3 g3.events.length c3) (rws_set (g := b0) (base := b0 + 1) (j := 0) (v := .int .i64 g3.room) rw4 (Nat.lt_succ_self _) hN4) (Nat.lt_succ_self _) hN4) (Nat.lt_succ_self _) hN4) (Nat.lt_succ_self _) hN4
        have bel5 := below_set4 hbw4 b0 hlow (.int .i64 g3.room) (.slice A3 g3.events.length c3) (.int .i64 g3.lost) (.int .i64 g3.floor)
        have Z5 : LZ ((((W4.setCell ⟨b0, 0, Option.none⟩ (.int .i64 g3.room)).setCell ⟨b0, 1, Option.none⟩ (.slice A3 g3.events.length c3)).setCell ⟨b0, 2, Option.none⟩ (.int .i64 g3.lost)).setCell ⟨b0, 3, Option.none⟩ (.int .i64 g3.floor)) b0 g3 A3 c3 :=
          ⟨⟨by simp; omega, by go_simp, by go_simp, by go_simp, by go_simp⟩, by go_simp, by go_simp, by go_simp, by go_simp⟩
        have hsz5 : ((((W4.setCell ⟨b0, 0, Option.none⟩ (.int .i64 g3.room)).setCell ⟨b0, 1, Option.none⟩ (.slice A3 g3.events.length c3)).setCell ⟨b0, 2, Option.none⟩ (.int .i64 g3.lost)).setCell ⟨b0, 3, Option.none⟩ (.int .i64 g3.floor)).heap.size = W4.heap.size := by simp
        have HSZ := Lib.hid hsz5
        have hbs : b0 + 1 ≤ ((((W4.setCell ⟨b0, 0, Option.none⟩ (.int .i64 g3.room)).setCell ⟨b0, 1, Option.none⟩ (.slice A3 g3.events.length c3)).setCell ⟨b0, 2, Option.none⟩ (.int .i64 g3.lost)).setCell ⟨b0, 3, Option.none⟩ (.int .i64 g3.floor)).heap.size := by rw [hsz5]; omega
        have on1 := ev_one x
        have m1 : acc.length + 1 ≤ maxLen := by unfold maxLen; omega
        have m2 : (acc.length + 1) * 40 ≤ 140737488355328 := by omega
        have hne : ∀ b, wr.heap.size ≤ b → (Value.slice Av acc.length cv).ownBlock ≠ some b := fun b hb => own_lt HS.out.own hb
        have hin : insAll [] (acc ++ [x]) = insE (insAll [] acc) x := by rw [insAll_append, insAll_one]
        have HO5 := Lib.hid ow5
        have HR5 := Lib.hid rw5
        have HZ5 := Lib.hid Z5
        have HNE := Lib.hid hne
        have HBK := Lib.hid hblk
        have HIN := Lib.hid hin
        obtain ⟨i0, hi, hz0, hz1, hz2⟩ := info_parts infoEv
        clear ow4 rw4 ow5 rw5 Z5 hN4 hne hblk hin HCA HST hsX hsz5
        go_wp2_with (at_builtin; refine wpList_push_other (o := ⟨some 55, _, _, _, _, _⟩) (w1 := ((((W4.setCell ⟨b0, 0, Option.none⟩ (.int .i64 g3.room)).setCell ⟨b0, 1, Option.none⟩ (.slice A3 g3.events.length c3)).setCell ⟨b0, 2, Option.none⟩ (.int .i64 g3.lost)).setCell ⟨b0, 3, Option.none⟩ (.int .i64 g3.floor))) _ _ 22 rfl rfl Tryd.underlying22 hi hz0 hz1 hz2 rfl (by decide) rfl HO5.out (Below.refl _ _) W4.heap.size (by simp only [World.size_setCell]) rfl rfl on1 m2 m1 hbs ?_; intro v2 w2 hown2 hbel2 hsz2 hoth2)
        go_roundw
        case rel =>
          refine ⟨k + 1, by omega, by go_num, acc ++ [x], g3, A3, c3, by simp; omega, by rw [HIN.out]; exact HKP.out, by rw [evCells_append, evCells_one', List.length_append]; exact hown2, HZ5.out.below hbel2 (Nat.lt_succ_self _), hc3, hA3, ?_, bel5.trans (hbel2.mono (by omega)), hlow⟩
          have := HSZ.out
          refine rws_block HR5.out (by omega) fun b o h hb => hoth2 b (by omega) (HNE.out b (HBK.out b o h))
        case measure => simp [intOf]; omega
    · obtain rfl : k = es.length := by omega
      obtain ⟨n, hn1, hn2, hn3, hn4⟩ := keep_end HS.out.keep
      have hown := HS.out.own
      have hval := HS.out.keep.val
      have hro := rws_one 22 (rws_of_ev hown rfl) (Nat.le_refl _) hcv hmv
      have C := rmerge_any (some ⟨wr.heap.size, 0, Option.none⟩) 1 _ [acc] (wr.alloc (Obj.cells #[.slice Av acc.length cv] 22)) (by simp) hro (by simp) (by simp; omega)
      rw [show [acc].flatten = acc by simp] at C
      simp only [List.length_cons, List.length_nil, Nat.zero_add] at C
      have hSl := Lib.hid (show (insAll [] acc).length = acc.length by rw [insAll_len]; simp)
      have hbx := box_below wr (Obj.cells #[.slice Av acc.length cv] 22)
      generalize insAll [] acc = S at *
      have HC := Lib.hid C
      have HN1 := Lib.hid hn1
      have HN3 := Lib.hid hn3
      have HN4 := Lib.hid hn4
      clear C hro hown hn1 hn3 hn4
      go_wp2_with fail
      refine HC.out.mono ?_
      rintro e' w3 ⟨A3, c3, rfl, hc3, hm3, hown3, hb3⟩
      have hb03 := hbx.trans (hb3.mono hbx.size)
      have hs03 := hb03.size
      have Z3 := HS.out.box.below hb03 hl0
      have R3 := HS.out.rws.mono EvC.mono hs03 hb03
      have hw3 := HS.out.bel.trans (hb03.mono hsz)
      have hsw3 := hw3.size
      have hl3 : b0 < w3.heap.size := by omega
      have RS := rws_of_ev hown3 rfl
      have hlg : (S.drop n).length = g.events.length := by rw [HN4.out]
      rw [List.length_drop] at hlg
      have HLG := Lib.hid hlg
      have hSle : S.length ≤ 60 := by have := hSl.out; omega
      have hgl : g.events.length ≤ 60 := by omega
      clear hlg
      have n1 : IntKind.i64.wrap ((S.length : Int) - room) = (S.length : Int) - room := IntWalk.i64_in _ (by omega)
      have N1 := Lib.hid n1
      have hnil := own_nil0 hown3
      clear n1
      go_wp2
      rw [HN1.out]
      have k0 : (0 : Int) ≤ (n : Int) := by omega
      have k1 : (n : Int) ≤ (S.length : Int) := by omega
      have k2 : (n : Int) ≤ (c3 : Int) := by omega
      have hgm : g.events.length ≤ maxLen := by unfold maxLen; omega
      have CK := fun W (hb : Below w3.heap.size w3 W) => known_any W (HT.out.below (hw3.trans (hb.mono hsw3)))
      have CV := fun W (hb : Below w3.heap.size w3 W) => valid_any Ag cg w3.heap.size g W hb.size (R3.mono EvC.mono (Nat.le_refl _) hb)
      rw [hval] at CV
      simp only [HN3.out] at CV
      have CS := fun A4 (h4 : Rws EvC 5 w3 w3.heap.size A4 (S.length - n) (S.drop n)) W (hb : Below w3.heap.size w3 W) => same_any Ag A4 w3.heap.size w3.heap.size cg (c3 - n) g.events W (R3.mono EvC.mono (Nat.le_refl _) hb) (by have := h4.mono EvC.mono (Nat.le_refl _) hb; rw [HN4.out, HLG.out] at this; exact this) hgm
      obtain ⟨⟨-, p0, p1, p2, p3⟩, -, -, -, -⟩ := id Z3
      rw [HN3.out] at p2
      have hZn : ∀ W, Below w3.heap.size w3 W → W.cell? ⟨b0, 0, Option.none⟩ = some (.int .i64 g.room) ∧ W.cell? ⟨b0, 1, Option.none⟩ = some (.slice Ag g.events.length cg) ∧ W.cell? ⟨b0, 2, Option.none⟩ = some (.int .i64 n) ∧ W.cell? ⟨b0, 3, Option.none⟩ = some (.int .i64 g.floor) := fun W hb => by
        have z := Z3.below hb hl3
        exact ⟨z.c0, z.c1, by rw [← HN3.out]; exact z.c2, z.c3⟩
      have HZn := Lib.hid hZn
      clear hZn
      cases A3 with
      | none =>
        obtain rfl : c3 = 0 := hnil rfl
        obtain rfl : n = 0 := by omega
        have hS0 : S = [] := List.eq_nil_of_length_eq_zero (by omega)
        subst hS0
        have CS2 : ∀ W, Below w3.heap.size w3 W → Calls Tryd.prog 24 #[.slice Ag g.events.length cg, .slice Option.none 0 0] W (RetBool true W) := fun W hb => by
          have h := CS Option.none (rws_none _ _ _ _ _) W hb
          have e0 : g.events.length = 0 := by have := HLG.out; simpa using this.symm
          rw [e0] at h ⊢
          exact h
        have HCK := Lib.hid CK
        have HCV := Lib.hid CV
        have HCS := Lib.hid CS2
        simp only [List.length_nil, Int.natCast_zero] at p2 HZn HCV ⊢
        clear CK CV CS CS2 hnil
        go_region_held3 (fun w' => w'.cell? ⟨b0, 0, Option.none⟩ = some (.int .i64 g.room) ∧ w'.cell? ⟨b0, 1, Option.none⟩ = some (.slice Ag g.events.length cg) ∧ w'.cell? ⟨b0, 2, Option.none⟩ = some (.int .i64 0) ∧ w'.cell? ⟨b0, 3, Option.none⟩ = some (.int .i64 g.floor)) (first | go_keep | exact s6 | exact s7 | exact s9)
          (first
           | ((go_at_call 12; refine (HCK.out _ (below_drewN (Below.refl _ _) 1)).mono ?_; rintro e' w6 ⟨rfl, hb6'⟩; have hb6 := below_same (a := w3) (B' := w3.heap.size) hb6' rfl rfl rfl rfl (Nat.le_refl _); have s6 := HZn.out _ hb6))
           | ((go_at_call 15; refine (HCV.out _ hb6).mono ?_; rintro e' w7 ⟨rfl, hb7⟩; have hb57 := hb6.trans (hb7.mono hb6.size); have s7 := HZn.out _ hb57))
           | ((go_at_call 24; (with_reducible refine (HCS.out _ hb57).mono ?_); rintro e' w9 ⟨rfl, hb9⟩; have hb59 := hb57.trans (hb9.mono hb57.size); have s9 := HZn.out _ hb59)))
        go_wp2
        go_ret
        exact ⟨rfl, hw3.trans (hb59.mono hsw3)⟩
      | some ad =>
        by_cases hcn : c3 = n
        · subst hcn
          have CS2 : ∀ W, Below w3.heap.size w3 W → Calls Tryd.prog 24 #[.slice Ag g.events.length cg, .slice (some ad) 0 0] W (RetBool true W) := fun W hb => by
            have h := CS (some ad) (by have h := rws_drop_if RS hn2 hc3; rwa [if_pos rfl] at h) W hb
            have e0 : g.events.length = 0 := by have := HLG.out; omega
            rw [Nat.sub_self] at h
            rw [e0] at h ⊢
            exact h
          have HCK := Lib.hid CK
          have HCV := Lib.hid CV
          have HCS := Lib.hid CS2
          clear CK CV CS CS2 hnil
          go_region_held3 (fun w' => w'.cell? ⟨b0, 0, Option.none⟩ = some (.int .i64 g.room) ∧ w'.cell? ⟨b0, 1, Option.none⟩ = some (.slice Ag g.events.length cg) ∧ w'.cell? ⟨b0, 2, Option.none⟩ = some (.int .i64 c3) ∧ w'.cell? ⟨b0, 3, Option.none⟩ = some (.int .i64 g.floor)) (first | go_keep | exact s6 | exact s7 | exact s9)
            (first
             | ((go_at_call 12; refine (HCK.out _ (below_drewN (Below.refl _ _) 1)).mono ?_; rintro e' w6 ⟨rfl, hb6'⟩; have hb6 := below_same (a := w3) (B' := w3.heap.size) hb6' rfl rfl rfl rfl (Nat.le_refl _); have s6 := HZn.out _ hb6))
             | ((go_at_call 15; refine (HCV.out _ hb6).mono ?_; rintro e' w7 ⟨rfl, hb7⟩; have hb57 := hb6.trans (hb7.mono hb6.size); have s7 := HZn.out _ hb57))
             | ((go_at_call 24; (with_reducible refine (HCS.out _ hb57).mono ?_); rintro e' w9 ⟨rfl, hb9⟩; have hb59 := hb57.trans (hb9.mono hb57.size); have s9 := HZn.out _ hb59)))
          go_wp2
          go_ret
          exact ⟨rfl, hw3.trans (hb59.mono hsw3)⟩
        · have CS2 : ∀ W, Below w3.heap.size w3 W → Calls Tryd.prog 24 #[.slice Ag g.events.length cg, .slice (some (ad.add (n * 5))) (S.length - n) (c3 - n)] W (RetBool true W) := fun W hb => by
            have h := CS (some (ad.add (n * 5))) (by have h := rws_drop_if RS hn2 hc3; rwa [if_neg hcn] at h) W hb
            rw [HLG.out]
            exact h
          have HCK := Lib.hid CK
          have HCV := Lib.hid CV
          have HCS := Lib.hid CS2
          clear CK CV CS CS2 hnil
          go_region_held3 (fun w' => w'.cell? ⟨b0, 0, Option.none⟩ = some (.int .i64 g.room) ∧ w'.cell? ⟨b0, 1, Option.none⟩ = some (.slice Ag g.events.length cg) ∧ w'.cell? ⟨b0, 2, Option.none⟩ = some (.int .i64 n) ∧ w'.cell? ⟨b0, 3, Option.none⟩ = some (.int .i64 g.floor)) (first | go_keep | exact s6 | exact s7 | exact s9)
            (first
             | ((go_at_call 12; refine (HCK.out _ (below_drewN (Below.refl _ _) 1)).mono ?_; rintro e' w6 ⟨rfl, hb6'⟩; have hb6 := below_same (a := w3) (B' := w3.heap.size) hb6' rfl rfl rfl rfl (Nat.le_refl _); have s6 := HZn.out _ hb6))
             | ((go_at_call 15; refine (HCV.out _ hb6).mono ?_; rintro e' w7 ⟨rfl, hb7⟩; have hb57 := hb6.trans (hb7.mono hb6.size); have s7 := HZn.out _ hb57))
             | ((go_at_call 24; (with_reducible refine (HCS.out _ hb57).mono ?_); rintro e' w9 ⟨rfl, hb9⟩; have hb59 := hb57.trans (hb9.mono hb57.size); have s9 := HZn.out _ hb59)))
          go_wp2
          go_ret
          exact ⟨rfl, hw3.trans (hb59.mono hsw3)⟩
end Go.Proofs.YtcoablindoknpaaDoor
