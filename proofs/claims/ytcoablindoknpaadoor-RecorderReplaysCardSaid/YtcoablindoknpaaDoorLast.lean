/-
  Last of the program: the last event of a signal at or before a time.
-/
import Derived.Test.YtcoablindoknpaaDoorBack
namespace Go.Proofs.YtcoablindoknpaaDoor
open Go.RowKit Go.Shelf

attribute [local go_sem] Oper.semAt_some

def mtB (d g t : Int) (e : Ev) : Bool := decide (e.device = d ∧ e.signal = g ∧ e.time ≤ t)
def lastP (es : List Ev) (d g t : Int) : Bool × Bool := match es.reverse.find? (mtB d g t) with
  | some e => (e.value, true)
  | Option.none => (false, false)
def BoxE (W : World) (B : Nat) (e : Ev) : Prop := W.heap[B]? = some (.cells #[.int .i64 e.time, .int .i64 e.device, .int .i64 e.signal, .bool e.value, .int .i64 e.quality] 26 (0, 0))
theorem BoxE.new (W : World) (e : Ev) : BoxE (W.alloc (.cells #[.int .i64 e.time, .int .i64 e.device, .int .i64 e.signal, .bool e.value, .int .i64 e.quality] 26)) W.heap.size e := World.alloc_heap_new W _
theorem BoxE.lt {W : World} {B : Nat} {e : Ev} (h : BoxE W B e) : B < W.heap.size := (Array.getElem?_eq_some_iff.1 h).1
theorem BoxE.eb {W : World} {B : Nat} {e : Ev} (h : BoxE W B e) : EB W B 0 e := by
  have h' : W.heap[B]? = _ := h
  exact ⟨by simp [World.cell?, h'], by simp [World.cell?, h'], by simp [World.cell?, h'], by simp [World.cell?, h'], by simp [World.cell?, h']⟩
theorem boxE_own (B : Nat) (e : Ev) : Own (fun (_ : Unit) W => BoxE W B e) := fun _ X Y row hs hg hrow => by
  have hs' : X.heap[B]? = _ := hs
  refine (hg.block B (BoxE.lt hs) fun e' => ?_).trans hs'
  obtain ⟨o, ho, hc⟩ := hrow B e'.symm
  rw [hs'] at ho
  cases ho
  cases hc
theorem bk_rev (es : List Ev) : ∀ k, k ≤ es.length → (upto es k).map (·.2) = es.reverse.take k := by
  intro k hk
  apply List.ext_getElem?
  intro i
  by_cases hi : i < k
  · have h1 : (upto es k)[i]? = some (bk es i) := by simp [upto, hi]
    have h2 : es.reverse[i]? = some ((bk es i).2) := by
      rw [List.getElem?_reverse (by omega)]
      unfold bk
      have : es.length - 1 - i < es.length := by omega
      rw [List.getElem?_eq_getElem this]
      rfl
    rw [List.getElem?_map, h1, List.getElem?_take, if_pos hi, h2]
    rfl
  · rw [List.getElem?_eq_none (by simp [upto]; omega), List.getElem?_eq_none (by simp; omega)]
theorem last_none {es : List Ev} {d g t : Int} (h : ∀ p ∈ upto es es.length, mtB d g t p.2 = false) : lastP es d g t = (false, false) := by
  have hr := bk_rev es es.length (Nat.le_refl _)
  rw [List.take_of_length_le (by simp)] at hr
  have : es.reverse.find? (mtB d g t) = Option.none := by
    rw [List.find?_eq_none]
    intro e he
    rw [← hr] at he
    obtain ⟨p, hp, rfl⟩ := List.mem_map.1 he
    rw [h p hp]
    decide
  simp [lastP, this]
theorem last_some {es : List Ev} {d g t : Int} {k : Nat} {ini : List (Nat × Ev)} {x : Nat × Ev} (hk : k ≤ es.length) (he : upto es k = ini ++ [x]) (h : ∀ p ∈ ini, mtB d g t p.2 = false) (hx : mtB d g t x.2 = true) : lastP es d g t = (x.2.value, true) := by
  have hr := bk_rev es k hk
  rw [he, List.map_append] at hr
  have hsp : es.reverse = (ini.map (·.2) ++ [x.2]) ++ es.reverse.drop k := by
    conv => lhs; rw [← List.take_append_drop k es.reverse]
    rw [← hr]
    rfl
  have : es.reverse.find? (mtB d g t) = some x.2 := by
    rw [hsp, List.append_assoc, List.find?_append]
    have h0 : (ini.map (·.2)).find? (mtB d g t) = Option.none := by
      rw [List.find?_eq_none]
      intro e he'
      obtain ⟨p, hp, rfl⟩ := List.mem_map.1 he'
      rw [h p hp]
      decide
    rw [h0]
    simp [hx]
  simp [lastP, this]

/-- The boxes of Last: its three numbers, its two results. -/
structure LsB (b : Nat) (d g t : Int) (r1 r2 : Bool) (W : World) : Prop where
  bd : Boxed W b 3 (.int .i64 d)
  bg : Boxed W (b + 1) 3 (.int .i64 g)
  bt : Boxed W (b + 1 + 1) 3 (.int .i64 t)
  b1 : Boxed W (b + 1 + 1 + 1) 4 (.bool r1)
  b2 : Boxed W (b + 1 + 1 + 1 + 1) 4 (.bool r2)
theorem LsB.alloc {b : Nat} {d g t : Int} {r1 r2 : Bool} {W : World} (h : LsB b d g t r1 r2 W) (o : Obj) : LsB b d g t r1 r2 (W.alloc o) := ⟨h.bd.alloc o, h.bg.alloc o, h.bt.alloc o, h.b1.alloc o, h.b2.alloc o⟩
theorem lsB_own {b : Nat} {d g t : Int} {r1 r2 : Bool} {W W' : World} {row : Option Nat} (h : LsB b d g t r1 r2 W) (hg : W.grownBy W' row) (hr : ∀ r, row = some r → ∃ o : Obj, W.heap[r]? = some o ∧ o.isCells = false) : LsB b d g t r1 r2 W' :=
  ⟨boxed_own b _ (fun (_ : Unit) => Value.int .i64 d) () W W' row h.bd hg hr, boxed_own (b + 1) _ (fun (_ : Unit) => Value.int .i64 g) () W W' row h.bg hg hr, boxed_own (b + 1 + 1) _ (fun (_ : Unit) => Value.int .i64 t) () W W' row h.bt hg hr,
    boxed_own (b + 1 + 1 + 1) _ (fun (_ : Unit) => Value.bool r1) () W W' row h.b1 hg hr, boxed_own (b + 1 + 1 + 1 + 1) _ (fun (_ : Unit) => Value.bool r2) () W W' row h.b2 hg hr⟩
theorem LsB.set {b : Nat} {d g t : Int} {r1 r2 : Bool} {W : World} (h : LsB b d g t r1 r2 W) (x y : Bool) : LsB b d g t x y ((W.setCell ⟨b + 1 + 1 + 1, 0, Option.none⟩ (.bool x)).setCell ⟨b + 1 + 1 + 1 + 1, 0, Option.none⟩ (.bool y)) :=
  ⟨(h.bd.other (by omega) _).other (by omega) _, (h.bg.other (by omega) _).other (by omega) _, (h.bt.other (by omega) _).other (by omega) _, (h.b1.set _).other (by omega) _, ((h.b2.other (by omega) _).set _)⟩
theorem keeps_two (W : World) (a b : Nat) (x y : Value) : KeepsOthers W ((W.setCell ⟨a, 0, Option.none⟩ x).setCell ⟨b, 0, Option.none⟩ y) := (KeepsOthers.setCell _ _ _).trans (KeepsOthers.setCell _ _ _)
theorem below_two {n : Nat} {w W : World} (h : Below n w W) {a b : Nat} (ha : n ≤ a) (hb : n ≤ b) (x y : Value) : Below n w ((W.setCell ⟨a, 0, Option.none⟩ x).setCell ⟨b, 0, Option.none⟩ y) := (h.setCell (p := ⟨a, 0, Option.none⟩) ha x).setCell (p := ⟨b, 0, Option.none⟩) hb y

set_option maxRecDepth 100000 in
set_option maxHeartbeats 4000000 in
theorem last_in (F : Fence) (n : Nat) (h33 : F.fn 33) (h48 : F.fn 48) (h58 : F.fn 58) (hro : F.round = Option.none) (hn : 4 ≤ n) (A : Option Addr) (c B : Nat) (es : List Ev) (d g t : Int) (w : World) (hB : B ≤ w.heap.size) (hr : Rws EvC 5 w B A es.length es) (hes : es.length ≤ 100000) :
    CallsIn F n Tryd.prog 33 #[.slice A es.length c, .int .i64 d, .int .i64 g, .int .i64 t] w fun e W' => e = .returned (.tuple #[.bool (lastP es d g t).1, .bool (lastP es d g t).2]) ∧ Below w.heap.size w W' := by
  have h1 : 1 ≤ n := by omega
  refine callsIn_of_wp_marks Tryd.func33 rfl h33 ?_ hro
  simp only [Tryd.ntmps33, List.size_toArray, List.length_cons, List.length_nil, Nat.reduceAdd, Nat.reduceSub, Array.replicate_succ, Array.replicate_zero, List.push_toArray, List.append_toArray, List.nil_append, List.cons_append]
  gi_wp2_with (gi_at_call 48; refine (back_in F (n - 1) h48 hro _ _ _ _).mono ?_; rintro e w' ⟨rfl, rfl⟩)
  obtain ⟨W0, hW0⟩ : ∃ W0, (((((w.alloc (Obj.cells #[.int .i64 d] 3)).alloc (Obj.cells #[.int .i64 g] 3)).alloc (Obj.cells #[.int .i64 t] 3)).alloc (Obj.cells #[.bool false] 4)).alloc (Obj.cells #[.bool false] 4)).alloc (Obj.cells #[.slice A es.length c] 22) = W0 := ⟨_, rfl⟩
  have hsz : W0.heap.size = w.heap.size + 1 + 1 + 1 + 1 + 1 + 1 := by rw [← hW0]; simp
  have hB0 : Below w.heap.size w W0 := by
    rw [← hW0]
    exact ((((((Below.refl _ w).alloc (Nat.le_refl _) _).alloc (by simp) _).alloc (by simp; omega) _).alloc (by simp; omega) _).alloc (by simp; omega) _).alloc (by simp; omega) _
  have bD := (((((Boxed.new w 3 (.int .i64 d)).alloc (Obj.cells #[.int .i64 g] 3)).alloc (Obj.cells #[.int .i64 t] 3)).alloc (Obj.cells #[.bool false] 4)).alloc (Obj.cells #[.bool false] 4)).alloc (Obj.cells #[.slice A es.length c] 22)
  have bG := ((((Boxed.new (w.alloc (Obj.cells #[.int .i64 d] 3)) 3 (.int .i64 g)).alloc (Obj.cells #[.int .i64 t] 3)).alloc (Obj.cells #[.bool false] 4)).alloc (Obj.cells #[.bool false] 4)).alloc (Obj.cells #[.slice A es.length c] 22)
  have bT := (((Boxed.new ((w.alloc (Obj.cells #[.int .i64 d] 3)).alloc (Obj.cells #[.int .i64 g] 3)) 3 (.int .i64 t)).alloc (Obj.cells #[.bool false] 4)).alloc (Obj.cells #[.bool false] 4)).alloc (Obj.cells #[.slice A es.length c] 22)
  have b1 := ((Boxed.new (((w.alloc (Obj.cells #[.int .i64 d] 3)).alloc (Obj.cells #[.int .i64 g] 3)).alloc (Obj.cells #[.int .i64 t] 3)) 4 (.bool false)).alloc (Obj.cells #[.bool false] 4)).alloc (Obj.cells #[.slice A es.length c] 22)
  have b2 := (Boxed.new ((((w.alloc (Obj.cells #[.int .i64 d] 3)).alloc (Obj.cells #[.int .i64 g] 3)).alloc (Obj.cells #[.int .i64 t] 3)).alloc (Obj.cells #[.bool false] 4)) 4 (.bool false)).alloc (Obj.cells #[.slice A es.length c] 22)
  have bS := Boxed.new (((((w.alloc (Obj.cells #[.int .i64 d] 3)).alloc (Obj.cells #[.int .i64 g] 3)).alloc (Obj.cells #[.int .i64 t] 3)).alloc (Obj.cells #[.bool false] 4)).alloc (Obj.cells #[.bool false] 4)) 22 (.slice A es.length c)
  simp only [World.size_alloc] at bG bT b1 b2 bS
  rw [hW0] at bD bG bT b1 b2 bS ⊢
  clear hW0
  have LB0 : LsB w.heap.size d g t false false W0 := ⟨bD, bG, bT, b1, b2⟩
  clear bD bG bT b1 b2
  refine wpIn_rangeFunc_ownH hro h1 (gf := 58) (lb := #[.pointer (some ⟨w.heap.size + 1 + 1 + 1 + 1 + 1, 0, Option.none⟩)]) rfl h58 (enters_of Tryd.func58 (by kernel_rfl) rfl)
    (back_stops F (n - 1) h58 hro (by omega) (w.heap.size + 1 + 1 + 1 + 1 + 1) W0.heap.size c A es hes W0 (by omega) (Nat.le_refl _) bS.cell (hr.mono EvC.mono (by omega) (hB0.mono hB))) belowK_t (belowK_b (Nat.le_refl _)) (Below.refl _ _) (fun _ => rfl)
    (fun pre W => (((∀ p ∈ pre, mtB d g t p.2 = false) ∧ LsB w.heap.size d g t false false W) ∧ Below w.heap.size w W) ∧ Below W0.heap.size W0 W)
    (fun cd pre W => (cd = .ret ∧ ∃ ini last, pre = ini ++ [last] ∧ (∀ p ∈ ini, mtB d g t p.2 = false) ∧ mtB d g t last.2 = true ∧ LsB w.heap.size d g t last.2.value true W) ∧ Below w.heap.size w W)
    (OwnFrom.and (OwnFrom.and (Own.from (fun _ _ _ _ hs hg hr => ⟨hs.1, lsB_own hs.2 hg hr⟩) _) (ownFrom_below (Nat.le_refl _) (by omega))) (ownFrom_below (Nat.le_refl _) (Nat.le_refl _)))
    (fun cd => OwnFrom.and (Own.from (fun _ _ _ _ hs hg hr => by obtain ⟨hc, ini, last, e1, e2, e3, e4⟩ := hs; exact ⟨hc, ini, last, e1, e2, e3, lsB_own e4 hg hr⟩) _) (ownFrom_below (Nat.le_refl _) (by omega)))
    ⟨⟨⟨by simp, LB0⟩, hB0⟩, Below.refl _ _⟩
    (fun x a' W => ∃ Bx, w.heap.size + 1 + 1 + 1 + 1 < Bx ∧ BoxE W Bx x.2 ∧ a' = { tmps := #[.slice A es.length c, .int .i64 d, .int .i64 g, .int .i64 t, undef, .pointer (some ⟨w.heap.size, 0, Option.none⟩), .pointer (some ⟨w.heap.size + 1, 0, Option.none⟩), .pointer (some ⟨w.heap.size + 1 + 1, 0, Option.none⟩), .pointer (some ⟨w.heap.size + 1 + 1 + 1, 0, Option.none⟩), .pointer (some ⟨w.heap.size + 1 + 1 + 1 + 1, 0, Option.none⟩), undef, .pointer (some ⟨Bx, 0, Option.none⟩), .slice A es.length c,
      .func (.func 58) #[] #[.pointer (some ⟨w.heap.size + 1 + 1 + 1 + 1 + 1, 0, Option.none⟩)], .int .i64 (x.1 : Int), .agg #[.int .i64 x.2.time, .int .i64 x.2.device, .int .i64 x.2.signal, .bool x.2.value, .int .i64 x.2.quality], undef, undef, undef, undef, undef, undef, undef, undef, undef, undef, undef, undef, undef, undef, undef, undef, undef, undef], defers := [] })
    (fun x a' _ X Y row hs hg hr => by obtain ⟨Bx, h1, h2, h3⟩ := hs; exact ⟨Bx, h1, boxE_own Bx x.2 () X Y row h2 hg (fun r e => (hr r e).2), h3⟩)
    ?assign ?body ?done ?stop
  case assign =>
    rintro l pre x W K ⟨⟨⟨hp, hL⟩, hBl⟩, hBz⟩ hK
    unfold encB
    dsimp only
    gi_wp2
    exact hK _ _ ((KeepsOthers.alloc _ _).from _) ((Below.refl _ W).alloc hBz.size _) ⟨⟨⟨hp, hL.alloc _⟩, hBl.alloc hBl.size _⟩, hBz.alloc hBz.size _⟩ ⟨W.heap.size, hL.b2.lt, BoxE.new W x.2, rfl⟩
  case body =>
    rintro l pre x a' W hl ⟨r, hrr⟩ ⟨⟨⟨hp, hL⟩, hBl⟩, hBz⟩ ⟨Bx, hBx, bX, rfl⟩ hlt
    have hmt : mtB d g t x.2 = decide (x.2.device = d ∧ x.2.signal = g ∧ x.2.time ≤ t) := rfl
    have HMT := Lib.hid hmt
    have hgo : mtB d g t x.2 = false → ∀ p ∈ pre ++ [x], mtB d g t p.2 = false := fun h p hp' => (List.mem_append.1 hp').elim (hp p) (fun e => by rw [List.mem_singleton] at e; rw [e]; exact h)
    have HGO := Lib.hid hgo
    have HP := Lib.hid hp
    obtain ⟨q0, q1, q2, q3, q4⟩ := bX.eb
    have cd := hL.bd.cell
    have cg := hL.bg.cell
    have ct := hL.bt.cell
    have c1 := hL.b1.cell
    have c2 := hL.b2.cell
    have f1 := hL.b1.frozen
    have f2 := hL.b2.frozen
    clear hmt hgo hp
    gi_wp2
    · rename_i e1 e2 e3
      exact ⟨(keeps_two _ _ _ _ _).from _, ⟨rfl, pre, x, rfl, HP.out, by rw [HMT.out]; simp [e1, e2, e3], hL.set _ _⟩, below_two hBl (by omega) (by omega) _ _⟩
    · rename_i e1 e2 e3
      exact ⟨KeepsFrom.refl _ _, Below.refl _ _, ⟨⟨HGO.out (by rw [HMT.out]; simp [e1, e2]; omega), hL⟩, hBl⟩, hBz⟩
    · rename_i e1 e2
      exact ⟨KeepsFrom.refl _ _, Below.refl _ _, ⟨⟨HGO.out (by rw [HMT.out]; simp [e1, e2]), hL⟩, hBl⟩, hBz⟩
    · rename_i e1
      exact ⟨KeepsFrom.refl _ _, Below.refl _ _, ⟨⟨HGO.out (by rw [HMT.out]; simp [e1]), hL⟩, hBl⟩, hBz⟩
  case done =>
    rintro D ys W hD rfl ⟨⟨⟨hne, hL⟩, hBl⟩, hBz⟩ hK
    have HL0 := Lib.hid (last_none hne)
    have c1 := hL.b1.cell
    have c2 := hL.b2.cell
    have f1 := hL.b1.frozen
    have f2 := hL.b2.frozen
    have hLs := hL.set false false
    have hK' := (keeps_two W (w.heap.size + 1 + 1 + 1) (w.heap.size + 1 + 1 + 1 + 1) (.bool false) (.bool false)).same D _ hK rfl
    have hB' := below_two hBl (a := w.heap.size + 1 + 1 + 1) (b := w.heap.size + 1 + 1 + 1 + 1) (by omega) (by omega) (.bool false) (.bool false)
    clear hne
    gi_wp2
    refine ⟨by simp, .inl ⟨_, _, rfl, run_takeDeferred hK', ?_⟩⟩
    have hc8 := cell_kept hLs.b1.cell (grownBy_putObj' _ D (.deferred Option.none)) (fun r e => by cases e; exact ⟨_, hK', rfl⟩)
    have hc9 := cell_kept hLs.b2.cell (grownBy_putObj' _ D (.deferred Option.none)) (fun r e => by cases e; exact ⟨_, hK', rfl⟩)
    refine ⟨.tuple #[.bool false, .bool false], ?_, ?_, hB'.trans (belowK_b (w := w) (Nat.le_refl _) _ D _ _ (by omega) hK' rfl rfl)⟩
    · simp [results, Tryd.f33, go_sem, hc8, hc9]
    · rw [HL0.out]
  case stop =>
    rintro D cd pre W hD ⟨k, hk, rfl⟩ ⟨⟨rfl, ini, last, e1, e2, e3, hL⟩, hBl⟩ hK
    have HL0 := Lib.hid (last_some hk e1 e2 e3)
    clear e1 e2 e3
    gi_wp2
    refine ⟨by simp, .inl ⟨_, _, rfl, run_takeDeferred hK, ?_⟩⟩
    have hc8 := cell_kept hL.b1.cell (grownBy_putObj' _ D (.deferred Option.none)) (fun r e => by cases e; exact ⟨_, hK, rfl⟩)
    have hc9 := cell_kept hL.b2.cell (grownBy_putObj' _ D (.deferred Option.none)) (fun r e => by cases e; exact ⟨_, hK, rfl⟩)
    refine ⟨.tuple #[.bool last.2.value, .bool true], ?_, ?_, hBl.trans (belowK_b (w := w) (Nat.le_refl _) _ D _ _ (by omega) hK rfl rfl)⟩
    · simp [results, Tryd.f33, go_sem, hc8, hc9]
    · rw [HL0.out]

def RetTwo (p : Bool × Bool) (w : World) (e : Ending) (w' : World) : Prop := e = .returned (.tuple #[.bool p.1, .bool p.2]) ∧ Below w.heap.size w w'
theorem last_any (A : Option Addr) (c B : Nat) (es : List Ev) (d g t : Int) (w : World) (hB : B ≤ w.heap.size) (hr : Rws EvC 5 w B A es.length es) (hes : es.length ≤ 100000) :
    Calls Tryd.prog 33 #[.slice A es.length c, .int .i64 d, .int .i64 g, .int .i64 t] w (RetTwo (lastP es d g t) w) :=
  callsIn_wide.1 (last_in Fence.wide 4 trivial trivial trivial rfl (Nat.le_refl _) A c B es d g t w hB hr hes)
end Go.Proofs.YtcoablindoknpaaDoor
