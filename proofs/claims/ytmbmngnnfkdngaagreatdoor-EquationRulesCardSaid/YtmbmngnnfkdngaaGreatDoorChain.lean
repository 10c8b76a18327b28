/-
  Operands joined by operators of one level: chain.
-/
import Derived.Test.YtmbmngnnfkdngaaGreatDoorShelf
import Derived.Test.YtmbmngnnfkdngaaGreatDoorName
import Derived.Test.YtmbmngnnfkdngaaGreatDoorPars
import Derived.Deep.LoopGhost
namespace Go.Proofs.YtmbmngnnfkdngaaGreatDoor
open Go.RowKit

/-- The blocks that are new in w' and those that w had are told apart. -/
theorem box_below (w : World) (o : Obj) : Below w.heap.size w (w.alloc o) := (Below.refl _ w).alloc (Nat.le_refl _) o
def New (w w' : World) (b : Nat) : Prop := w.heap.size ≤ b ∧ b < w'.heap.size
def exV (op n : Int) (nm : List UInt8) (A : Option Addr) (k c : Nat) : Value := .agg #[.int .i64 op, .int .i64 n, .string ⟨nm.toArray⟩, .slice A k c]
/-- An expression is returned: its operands lie in new blocks. -/
def RetEx (pb : Nat) (A : Option Addr) (c : Nat) (L : List Tok) (x : Ex) (i : Nat) (late : Int) (w : World) (e : Ending) (w' : World) : Prop :=
  ∃ op n nm A' c' ks, x = .mk op n nm ks ∧ e = .returned (exV op n nm A' ks.length c') ∧ ks.length ≤ c' ∧ c' ≤ maxLen ∧ ExP op n nm ∧ Rw ExV 4 w' (New w w') A' ks.length ks ∧ Left pb A c L i late w w' ∧ i < L.length
def RetP (pb : Nat) (A : Option Addr) (c : Nat) (L : List Tok) (r : Except (Int × Int) (Ex × Nat × Int)) (w : World) (e : Ending) (w' : World) : Prop := match r with
  | .error (a, er) => RetStop pb a er w e w'
  | .ok (x, i, late) => RetEx pb A c L x i late w e w'
/-- What a part of the parser does, at function K. -/
def Part (pb : Nat) (A : Option Addr) (c : Nat) (L : List Tok) (K : FuncId) (e : Nat → Int → Res Ex) : Prop :=
  ∀ i late w r, PS pb A c L i late w → e i late = some r → Calls Tryz.prog K #[.pointer (some ⟨pb, 0, Option.none⟩)] w (RetP pb A c L r w)

theorem containsS_eq (ops : List (List UInt8)) (s : List UInt8) : Lib.containsS (ops.map fun l => (⟨l.toArray⟩ : ByteArray)) ⟨s.toArray⟩ = ops.contains s := by
  rw [Bool.eq_iff_iff, Lib.containsS_iff, List.contains_iff_mem]
  simp

/-- Four cells of a block are stored anew. -/
def set4 (w : World) (b : Nat) (v0 v1 v2 v3 : Value) : World := (((w.setCell ⟨b, 0, Option.none⟩ v0).setCell ⟨b, 1, Option.none⟩ v1).setCell ⟨b, 2, Option.none⟩ v2).setCell ⟨b, 3, Option.none⟩ v3
theorem set4_heap {w : World} {b : Nat} {a0 a1 a2 a3 : Value} {t : TypeId} (h : w.heap[b]? = some (.cells #[a0, a1, a2, a3] t (0, 0))) (v0 v1 v2 v3 : Value) : (set4 w b v0 v1 v2 v3).heap[b]? = some (.cells #[v0, v1, v2, v3] t (0, 0)) := by
  have h0 := heap_setCell_same w b 0 _ _ v0 h
  have h1 := heap_setCell_same _ b 1 _ _ v1 h0
  have h2 := heap_setCell_same _ b 2 _ _ v2 h1
  have h3 := heap_setCell_same _ b 3 _ _ v3 h2
  exact h3
theorem set4_grown (w : World) (b : Nat) (v0 v1 v2 v3 : Value) : w.grownBy (set4 w b v0 v1 v2 v3) (some b) := (((grown_set w b 0 v0).trans (grown_set _ b 1 v1)).trans (grown_set _ b 2 v2)).trans (grown_set _ b 3 v3)
theorem set4_size (w : World) (b : Nat) (v0 v1 v2 v3 : Value) : (set4 w b v0 v1 v2 v3).heap.size = w.heap.size := by simp [set4]
/-- An expression's variable. -/
structure XV (w : World) (b : Nat) (op n : Int) (nm : List UInt8) (A : Option Addr) (k c : Nat) : Prop where
  heap : w.heap[b]? = some (.cells #[.int .i64 op, .int .i64 n, .string ⟨nm.toArray⟩, .slice A k c] 25 (0, 0))
theorem XV.lt {w : World} {b : Nat} {op n : Int} {nm : List UInt8} {A : Option Addr} {k c : Nat} (h : XV w b op n nm A k c) : b < w.heap.size := (Array.getElem?_eq_some_iff.1 h.heap).1
theorem XV.cells {w : World} {b : Nat} {op n : Int} {nm : List UInt8} {A : Option Addr} {k c : Nat} (h : XV w b op n nm A k c) :
    w.cell? ⟨b, 0, Option.none⟩ = some (.int .i64 op) ∧ w.cell? ⟨b, 1, Option.none⟩ = some (.int .i64 n) ∧ w.cell? ⟨b, 2, Option.none⟩ = some (.string ⟨nm.toArray⟩) ∧ w.cell? ⟨b, 3, Option.none⟩ = some (.slice A k c) ∧
    w.frozen? ⟨b, 0, Option.none⟩ = false ∧ w.frozen? ⟨b, 1, Option.none⟩ = false ∧ w.frozen? ⟨b, 2, Option.none⟩ = false ∧ w.frozen? ⟨b, 3, Option.none⟩ = false := by
  have hh := h.heap
  exact ⟨by simp [World.cell?, hh], by simp [World.cell?, hh], by simp [World.cell?, hh], by simp [World.cell?, hh], Lib.frozen_of_heap hh 0, Lib.frozen_of_heap hh 1, Lib.frozen_of_heap hh 2, Lib.frozen_of_heap hh 3⟩
theorem XV.keep {S : Nat → Prop} {w w' : World} {b : Nat} {op n : Int} {nm : List UInt8} {A : Option Addr} {k c : Nat} (h : XV w b op n nm A k c) (hk : KeepOn S w w') (hb : S b) : XV w' b op n nm A k c := ⟨(hk b hb).trans h.heap⟩
theorem XV.new (w : World) (op n : Int) (nm : List UInt8) (A : Option Addr) (k c : Nat) : XV (w.alloc (.cells #[.int .i64 op, .int .i64 n, .string ⟨nm.toArray⟩, .slice A k c] 25)) w.heap.size op n nm A k c := ⟨heap_alloc_new w _⟩

attribute [local go_sem] fieldTok1
theorem range_of_heap {w : World} {b o : Nat} {cur : Array Value} {t : TypeId} {cs : List Value} (h : w.heap[b]? = some (.cells cur t (0, 0))) (hc : ∀ j v, cs[j]? = some v → cur[o + j]? = some v) : w.rangeAt b o cs := by
  intro j v hv
  rw [cell_of_row w b (o + j) cur t (0, 0) h]
  exact hc j v hv
theorem rw_two {w : World} {S : Nat → Prop} {b : Nat} {x0 x1 x2 x3 y0 y1 y2 y3 : Value} {t : TypeId} {x y : Ex} (h : w.heap[b]? = some (.cells #[x0, x1, x2, x3, y0, y1, y2, y3] t (0, 0))) (hx : ExV w S [x0, x1, x2, x3] x) (hy : ExV w S [y0, y1, y2, y3] y) (hS : S b) :
    Rw ExV 4 w S (some ⟨b, 0, Option.none⟩) 2 [x, y] := by
  refine ⟨rfl, fun _ => ⟨b, 0, rfl, hS, fun k z hz => ?_⟩⟩
  match k, hz with
  | 0, hz =>
    cases hz
    refine ⟨_, rfl, hx, range_of_heap h fun j v hv => ?_⟩
    match j, hv with
    | 0, hv | 1, hv | 2, hv | 3, hv => exact hv
  | 1, hz =>
    cases hz
    refine ⟨_, rfl, hy, range_of_heap h fun j v hv => ?_⟩
    match j, hv with
    | 0, hv | 1, hv | 2, hv | 3, hv => exact hv
theorem wf64 {z : Int} (h1 : -9223372036854775808 ≤ z) (h2 : z ≤ 9223372036854775807) : (Lit.int .i64 z).wf = true := by
  have a : IntKind.i64.min = -9223372036854775808 := by decide
  have b : IntKind.i64.max = 9223372036854775807 := by decide
  simp only [Lit.wf, a, b]
  simp
  omega
theorem Left.put {pb : Nat} {A : Option Addr} {c : Nat} {L : List Tok} {j : Nat} {late : Int} {w w' : World} (h : Left pb A c L j late w w') {b : Nat} (hb : w.heap.size ≤ b) (hne : b ≠ pb) (v0 v1 v2 v3 : Value) : Left pb A c L j late w (set4 w' b v0 v1 v2 v3) := by
  have g := set4_grown w' b v0 v1 v2 v3
  exact ⟨⟨g.os.trans h.1.os, g.tape.trans h.1.tape, g.output.trans h.1.output, Nat.le_trans h.1.size g.size, fun k hk hn => (g.block k (Nat.lt_of_lt_of_le hk h.1.size) (fun q => by injection q; omega)).trans (h.1.block k hk hn)⟩, (g.block pb h.lt (fun q => hne (by injection q with q; exact q.symm))).trans h.2⟩
theorem opP_wf (s : List UInt8) : (Lit.int .i64 (operationP s)).wf = true ∧ 0 ≤ operationP s ∧ operationP s ≤ 22 := by
  have key : ∀ (l : List (List UInt8)) (k : Int), 0 ≤ k → k + l.length ≤ 23 → 0 ≤ opFrom s l k ∧ opFrom s l k ≤ 22 := by
    intro l
    induction l with
    | nil => intro k _ _; exact ⟨Int.le_refl _, by show (0 : Int) ≤ 22; omega⟩
    | cons a l ih =>
      intro k h1 h2
      simp only [opFrom]
      simp only [List.length_cons] at h2
      split
      · omega
      · exact ih (k + 1) (by omega) (by omega)
  have h := key opWords 4 (by omega) (by decide)
  refine ⟨?_, h⟩
  have h1 : 0 ≤ operationP s := h.1
  have h2 : operationP s ≤ 22 := h.2
  generalize operationP s = z at *
  exact wf64 (by omega) (by omega)
/-- The loop of chain: x so far. -/
def ChR (w0 : World) (pb : Nat) (A : Option Addr) (c : Nat) (L : List Tok) (e : Nat → Int → Res Ex) (ops : List (List UInt8)) (r : Except (Int × Int) (Ex × Nat × Int)) (xb : Nat) (g : Nat) (wr : World) : Prop :=
  ∃ op n nm A' c' ks j la, pMore L e ops g (.mk op n nm ks) j la = some r ∧ ks.length ≤ c' ∧ c' ≤ maxLen ∧ ExP op n nm ∧ Rw ExV 4 wr (fun b => w0.heap.size < b ∧ b < wr.heap.size ∧ b ≠ xb) A' ks.length ks ∧
    XV wr xb op n nm A' ks.length c' ∧ wr.heap[w0.heap.size]? = some (.cells #[.int .i64 0, .int .i64 0, .string ⟨#[]⟩, .slice Option.none 0 0] 25 (0, 0)) ∧ Left pb A c L j la w0 wr ∧ j < L.length

set_option maxRecDepth 100000 in
set_option maxHeartbeats 4000000 in
theorem chain_any {pb : Nat} {A : Option Addr} {c : Nat} {L : List Tok} {K : FuncId} {e : Nat → Int → Res Ex} (hP : Part pb A c L K e) (hK : ∀ args w, (callFunc K args).run Tryz.prog w = .ok (.enter K args) w)
    (ops : List (List UInt8)) (ob : Nat) (g i : Nat) (late : Int) (w : World) (r : Except (Int × Int) (Ex × Nat × Int)) (hs : PS pb A c L i late w) (hr : pChain L e ops g i late = some r) (ho : ob ≠ pb) (hob : ob < w.heap.size) (hol : ops.length ≤ 10)
    (hops : ∀ j l, ops[j]? = some l → w.cell? ⟨ob, j, Option.none⟩ = some (.string ⟨l.toArray⟩)) :
    Calls Tryz.prog 37 #[.pointer (some ⟨pb, 0, Option.none⟩), .func (.func K) #[.pointer (some ⟨pb, 0, Option.none⟩)] #[], .slice (some ⟨ob, 0, Option.none⟩) ops.length ops.length] w (RetP pb A c L r w) := by
  have HP := Lib.hid hP
  have HS := Lib.hid hs
  have HO := Lib.hid hops
  have HR := Lib.hid hr
  clear hP hs hops hr
  go_enter Tryz.func37, Tryz.ntmps37
  go_wp2_with fail
  have hbox := box_below w (Obj.cells #[.int .i64 0, .int .i64 0, .string ⟨#[]⟩, .slice Option.none 0 0] 25)
  have hres : (w.alloc (Obj.cells #[.int .i64 0, .int .i64 0, .string ⟨#[]⟩, .slice Option.none 0 0] 25)).heap[w.heap.size]? = some (.cells #[.int .i64 0, .int .i64 0, .string ⟨#[]⟩, .slice Option.none 0 0] 25 (0, 0)) := heap_alloc_new w _
  have HRES := Lib.hid hres
  have hpb := HS.out.ltp
  have hgo := HR.out
  unfold pChain at hgo
  cases he : e i late with
  | none => rw [he] at hgo; cases hgo
  | some r0 =>
  rw [he] at hgo
  have C := HP.out i late _ r0 (HS.out.below hbox) he
  have HC := Lib.hid C
  clear C he HR hres
  rcases r0 with ⟨a, er⟩ | ⟨x, j, la⟩
  · obtain rfl : Except.error (a, er) = r := by injection hgo
    clear hgo
    refine HC.out.mono ?_
    rintro e' w1 ⟨rfl, hg⟩
    refine bodyPost_panic rfl ⟨rfl, ?_⟩
    exact (grown_of_below hbox).trans hg
  have HG := Lib.hid (show pMore L e ops g x j la = some r from hgo)
  clear hgo
  refine HC.out.mono ?_
  rintro e' w1 ⟨op, n, nm, A1, c1, ks, rfl, rfl, hc1, hm1, hp1, hr1, hl1, hj⟩
  unfold exV
  have HR1 := Lib.hid hr1
  have HL1 := Lib.hid hl1
  have hs1 := hl1.1.size
  simp only [World.size_alloc] at hs1
  clear hr1 hl1 HC
  go_wp2_with fail
  go_loopg [8, 9] g (fun g' _ _ wr => ChR w pb A c L e ops r w1.heap.size g' wr)
  case atStart =>
    refine ⟨op, n, nm, A1, c1, ks, j, la, HG.out, hc1, hm1, hp1, ?_, XV.new w1 op n nm A1 ks.length c1, ?_, ?_, hj⟩
    · refine HR1.out.mono ExV.mono (fun b hb => ?_) (keepOn_below (box_below w1 _) fun b hb => hb.2)
      have h1 := hb.1
      have h2 := hb.2
      simp only [World.size_alloc] at h1 ⊢
      omega
    · rw [Lib.alloc_old w1 _ _ (by omega), HL1.out.1.block w.heap.size (by simp) (fun h => by injection h; omega)]
      exact HRES.out
    · exact Left.alloc ⟨(grown_of_below hbox).trans HL1.out.1, HL1.out.2⟩ _
  case round =>
    clear HG HR1 HL1 HRES
    obtain ⟨op, n, nm, A1, c1, ks, j, la, hmore, hc1, hm1, hp1, hr1, hx1, hres1, hl1, hj⟩ := hrel
    cases gk with
    | zero => cases hmore
    | succ g' =>
    have hs2 := hl1.1.size
    have hps := HS.out.left hl1 hj
    have C1 := peek_any hps
    have hlx := hx1.lt
    unfold pMore at hmore
    have HPS := Lib.hid hps
    have HR1 := Lib.hid hr1
    have HX1 := Lib.hid hx1
    have HL1 := Lib.hid hl1
    have HRES := Lib.hid hres1
    have HM := Lib.hid hmore
    have hcO : ∀ W, KeepOn (fun b => b = ob) wr W → ∀ j, j < (ops.map fun l => (⟨l.toArray⟩ : ByteArray)).length → W.cell? ⟨ob, 0 + j, Option.none⟩ = some (.string ((ops.map fun l => (⟨l.toArray⟩ : ByteArray)).getD j ByteArray.empty)) := by
      intro W hk q hq
      rw [List.length_map] at hq
      have h1 : W.cell? ⟨ob, 0 + q, Option.none⟩ = wr.cell? ⟨ob, 0 + q, Option.none⟩ := World.cell?_of_block (hk ob rfl)
      have h2 : wr.cell? ⟨ob, 0 + q, Option.none⟩ = w.cell? ⟨ob, 0 + q, Option.none⟩ := World.cell?_of_block (hl1.1.block ob hob (fun h => ho (by injection h)))
      rw [h1, h2, Nat.zero_add, HO.out q _ (List.getElem?_eq_getElem hq)]
      simp [List.getD_eq_getElem?_getD, hq]
    have C2 := fun W (hb : Below wr.heap.size wr W) => Tryz.slices_Contains_string ob 0 ops.length ops.length (ops.map fun l => (⟨l.toArray⟩ : ByteArray)) ⟨(tk L j).text.toArray⟩ W (by simp) (by omega) (hcO W (keepOn_below hb fun b h => h ▸ (by omega : ob < wr.heap.size)))
    have HC1 := Lib.hid C1
    have HC2 := Lib.hid C2
    clear hcO
    clear hps C1 C2 hr1 hx1 hl1 hres1 hmore
    unfold RetTok tokV at HC1
    have C3 := fun W (hb : Below wr.heap.size wr W) => take_any (HPS.out.below hb)
    unfold RetTake at C3
    have hcq := containsS_eq ops (tk L j).text
    obtain ⟨t, ht⟩ : ∃ t, tk L j = t := ⟨_, rfl⟩
    rw [ht] at HC1 HC2 HM hcq C3
    have hcq2 : Lib.containsS ((ops.map fun l => (⟨l.toArray⟩ : ByteArray)).take ops.length) ⟨t.text.toArray⟩ = ops.contains t.text := by rw [List.take_of_length_le (by simp)]; exact hcq
    rw [hcq2] at HC2
    have hm := HM.out
    have HC3 := Lib.hid C3
    clear ht hcq hcq2 HM C3
    generalize ops.contains t.text = bq at *
    cases bq with
    | false =>
      obtain rfl : Except.ok (Ex.mk op n nm ks, j, la) = r := by injection hm
      clear hm
      obtain ⟨x0, x1, x2, x3, -, -, -, -⟩ := HX1.out.cells
      go_wp2_with fail
      refine HC1.out.mono ?_
      rintro e' wq ⟨rfl, hb2⟩
      go_wp2_with fail
      refine (HC2.out _ hb2).mono ?_
      rintro e' w2 ⟨rfl, rfl⟩
      have X2 := HX1.out.keep (keepOn_below hb2 fun b h => h) hlx
      obtain ⟨y0, y1, y2, y3, -, -, -, -⟩ := X2.cells
      have hbs := hb2.size
      have R2 : XV w2 w.heap.size 0 0 [] Option.none 0 0 := ⟨(hb2.block _ (by omega)).trans HRES.out⟩
      obtain ⟨q0, q1, q2, q3, z0, z1, z2, z3⟩ := R2.cells
      clear x0 x1 x2 x3
      have hK := set4_grown w2 w.heap.size (.int .i64 op) (.int .i64 n) (.string ⟨nm.toArray⟩) (.slice A1 ks.length c1)
      have hH := set4_heap R2.heap (.int .i64 op) (.int .i64 n) (.string ⟨nm.toArray⟩) (.slice A1 ks.length c1)
      have hZ := set4_size w2 w.heap.size (.int .i64 op) (.int .i64 n) (.string ⟨nm.toArray⟩) (.slice A1 ks.length c1)
      have HK := Lib.hid hK
      have HH := Lib.hid hH
      have HZ := Lib.hid hZ
      clear hK hH hZ
      go_wp2
      change bodyPost _ _ _ _ _ (set4 w2 w.heap.size (.int .i64 op) (.int .i64 n) (.string ⟨nm.toArray⟩) (.slice A1 ks.length c1))
      obtain ⟨W4, hW4⟩ : ∃ W4, set4 w2 w.heap.size (.int .i64 op) (.int .i64 n) (.string ⟨nm.toArray⟩) (.slice A1 ks.length c1) = W4 := ⟨_, rfl⟩
      rw [hW4] at HK HH HZ ⊢
      have X4 : XV W4 w.heap.size op n nm A1 ks.length c1 := ⟨HH.out⟩
      obtain ⟨r0, r1, r2, r3, -, -, -, -⟩ := X4.cells
      refine bodyPost_ret (v := exV op n nm A1 ks.length c1) (by simp [results, Tryz.results37, go_sem, exV, r0, r1, r2, r3]) rfl ?_
      refine ⟨op, n, nm, A1, c1, ks, rfl, rfl, hc1, hm1, hp1, ?_, ?_, hj⟩
      · have hz := HZ.out
        refine HR1.out.mono ExV.mono (fun b hb => ⟨by omega, by omega⟩) ((keepOn_below hb2 fun b hb => hb.2.1).trans (keepOn_grown HK.out fun b hb => ⟨by omega, fun h => by injection h; omega⟩))
      · have h3 := HL1.out.below hb2
        exact ⟨⟨HK.out.os.trans h3.1.os, HK.out.tape.trans h3.1.tape, HK.out.output.trans h3.1.output, Nat.le_trans h3.1.size HK.out.size, fun k hk hne => (HK.out.block k (Nat.lt_of_lt_of_le hk h3.1.size) (fun h => by injection h; omega)).trans (h3.1.block k hk hne)⟩, (HK.out.block pb h3.lt (fun h => by injection h; omega)).trans h3.2⟩
    | true =>
      have hpl : pb < wr.heap.size := by omega
      have hlt' := HPS.out.take_lt
      cases he : e (takeI L j) la with
      | none => rw [he] at hm; cases hm
      | some r0 =>
      rw [he] at hm
      have C5 := fun W (h : PS pb A c L (takeI L j) la W) => HP.out (takeI L j) la W r0 h he
      have HC5 := Lib.hid C5
      have HM := Lib.hid hm
      have C4 := fun W => operation_any t.text W
      have hop := opP_wf t.text
      generalize operationP t.text = opn at *
      have HC4 := Lib.hid C4
      have HOP := Lib.hid hop
      clear C5 he hm C4 hop
      go_wp2_with fail
      refine HC1.out.mono ?_
      rintro e' wq ⟨rfl, hb2⟩
      go_wp2_with fail
      refine (HC2.out _ hb2).mono ?_
      rintro e' w2 ⟨rfl, rfl⟩
      go_wp2_with fail
      refine (HC3.out _ hb2).mono ?_
      rintro e' w3 ⟨rfl, hl3⟩
      unfold tokV
      have P3 := (HPS.out.below hb2).left hl3 hlt'
      have L3 := (HL1.out.below hb2).trans hl3
      go_wp2_with fail
      refine (HC4.out _).mono ?_
      rintro e' w4 ⟨rfl, hb4⟩
      have P4 := P3.below hb4
      have L4 := L3.below hb4
      have K4 : KeepOn (fun b => b < wr.heap.size ∧ b ≠ pb) wr w4 := ((keepOn_below hb2 fun b h => h.1).trans (keepOn_grown hl3.1 fun b h => ⟨Nat.lt_of_lt_of_le h.1 hb2.size, fun q => h.2 (by injection q)⟩)).trans (keepOn_below hb4 fun b h => Nat.lt_of_lt_of_le h.1 (Nat.le_trans hb2.size hl3.1.size))
      have hs4 : wr.heap.size ≤ w4.heap.size := Nat.le_trans hb2.size (Nat.le_trans hl3.1.size hb4.size)
      have HP4 := Lib.hid P4
      have HL4 := Lib.hid L4
      have HK4 := Lib.hid K4
      clear P3 L3 P4 L4 K4 hb2 hb4 hl3 HC1 HC2 HC3 HC4
      go_wp2_with fail
      rcases r0 with ⟨a, er⟩ | ⟨y, j2, la2⟩
      · obtain rfl : Except.error (a, er) = r := by have := HM.out; injection this
        refine (HC5.out _ HP4.out).mono ?_
        rintro e' w5 ⟨rfl, hg⟩
        refine bodyPost_panic rfl ⟨rfl, ?_⟩
        exact HL4.out.1.trans hg
      refine (HC5.out _ HP4.out).mono ?_
      rintro e' w5 ⟨op2, n2, nm2, A2, c2, ks2, rfl, rfl, hc2, hm2, hp2, hr2, hl5, hj2⟩
      unfold exV
      have X5 := (HX1.out.keep HK4.out ⟨hlx, by omega⟩).keep (keepOn_grown hl5.1 (S := fun b => b < w4.heap.size ∧ b ≠ pb) fun b h => ⟨h.1, fun q => h.2 (by injection q)⟩) ⟨by omega, by omega⟩
      obtain ⟨x0, x1, x2, x3, f0, f1, f2, f3⟩ := X5.cells
      have hs5 := hl5.1.size
      have hlx5 := X5.lt
      have HR2 := Lib.hid hr2
      have HL5 := Lib.hid hl5
      have HX5 := Lib.hid X5
      clear hr2 hl5 X5 HC5
      go_wp2
      go_roundg g'
      case measure => omega
      case rel =>
        obtain ⟨V, hV⟩ : ∃ V, set4 w5 w1.heap.size (.int .i64 opn) (.int .i64 0) (.string ⟨#[]⟩) (.slice (some ⟨w5.heap.size + 1, 0, Option.none⟩) 2 2) = V := ⟨_, rfl⟩
        have gV := set4_grown w5 w1.heap.size (.int .i64 opn) (.int .i64 0) (.string ⟨#[]⟩) (.slice (some ⟨w5.heap.size + 1, 0, Option.none⟩) 2 2)
        have hV1 := set4_heap HX5.out.heap (.int .i64 opn) (.int .i64 0) (.string ⟨#[]⟩) (.slice (some ⟨w5.heap.size + 1, 0, Option.none⟩) 2 2)
        have sV := set4_size w5 w1.heap.size (.int .i64 opn) (.int .i64 0) (.string ⟨#[]⟩) (.slice (some ⟨w5.heap.size + 1, 0, Option.none⟩) 2 2)
        have lV := (HL4.out.trans HL5.out).put (b := w1.heap.size) (by omega) (by omega) (.int .i64 opn) (.int .i64 0) (.string ⟨#[]⟩) (.slice (some ⟨w5.heap.size + 1, 0, Option.none⟩) 2 2)
        show ChR w pb A c L e ops r w1.heap.size g' (((set4 w5 w1.heap.size (.int .i64 opn) (.int .i64 0) (.string ⟨#[]⟩) (.slice (some ⟨w5.heap.size + 1, 0, Option.none⟩) 2 2)).alloc _).alloc _)
        rw [hV] at gV hV1 sV lV ⊢
        have hpl5 : pb < w5.heap.size := by omega
        have kW : ∀ (o1 o2 : Obj), KeepOn (fun b => b < w5.heap.size ∧ b ≠ w1.heap.size) w5 ((V.alloc o1).alloc o2) := fun o1 o2 =>
          ((keepOn_grown gV fun b h => ⟨h.1, fun q => h.2 (by injection q)⟩).trans (keepOn_below (box_below V o1) fun b h => by omega)).trans (keepOn_below (box_below (V.alloc o1) o2) fun b h => by simp; omega)
        have k5 : KeepOn (fun b => b < w4.heap.size ∧ b ≠ pb) w4 w5 := keepOn_grown HL5.out.1 fun b h => ⟨h.1, fun q => h.2 (by injection q)⟩
        refine ⟨opn, 0, [], some ⟨w5.heap.size + 1, 0, Option.none⟩, 2, [.mk op n nm ks, .mk op2 n2 nm2 ks2], j2, la2, HM.out, Nat.le_refl _, by unfold maxLen; decide, ⟨HOP.out.1, by decide, by simp⟩, ?_, ⟨?_⟩, ?_, Left.alloc (Left.alloc lV _) _, hj2⟩
        · refine rw_two (x0 := .int .i64 op) (x1 := .int .i64 n) (x2 := .string ⟨nm.toArray⟩) (x3 := .slice A1 ks.length c1) (y0 := .int .i64 op2) (y1 := .int .i64 n2) (y2 := .string ⟨nm2.toArray⟩) (y3 := .slice A2 ks2.length c2) (t := 25) ?_ (ExV.mk hc1 hm1 hp1 ?_) (ExV.mk hc2 hm2 hp2 ?_) ?_
          · have := heap_alloc_new (V.alloc (Obj.cells #[.int .i64 op2, .int .i64 n2, .string ⟨nm2.toArray⟩, .slice A2 ks2.length c2] 25)) (Obj.cells #[.int .i64 op, .int .i64 n, .string ⟨nm.toArray⟩, .slice A1 ks.length c1, .int .i64 op2, .int .i64 n2, .string ⟨nm2.toArray⟩, .slice A2 ks2.length c2] 25)
            rw [World.size_alloc, sV] at this
            exact this
          · refine HR1.out.mono ExV.mono (fun b h => ?_) (((HK4.out.mono fun b h => ⟨h.2.1, by omega⟩).trans (k5.mono fun b h => ⟨by omega, by omega⟩)).trans ((kW _ _).mono fun b h => ⟨by omega, h.2.2⟩))
            simp only [World.size_alloc]
            omega
          · refine HR2.out.mono ExV.mono (fun b h => ?_) ((kW _ _).mono fun b h => ⟨h.2, by have := h.1; omega⟩)
            have h1 := h.1
            have h2 := h.2
            simp only [World.size_alloc]
            omega
          · simp only [World.size_alloc]
            omega
        · rw [Lib.alloc_old _ _ _ (by simp; omega), Lib.alloc_old _ _ _ (by omega)]
          exact hV1
        · exact (kW _ _ _ ⟨by omega, by omega⟩).trans ((k5 _ ⟨by omega, by omega⟩).trans ((HK4.out _ ⟨by omega, by omega⟩).trans HRES.out))
end Go.Proofs.YtmbmngnnfkdngaaGreatDoor
