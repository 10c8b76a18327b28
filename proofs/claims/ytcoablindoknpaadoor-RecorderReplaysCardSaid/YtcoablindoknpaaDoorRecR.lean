/-
  insert and Record of the reference, over any list, log and event.
-/
import Derived.Test.YtcoablindoknpaaDoorRecP
namespace Go.Proofs.YtcoablindoknpaaDoor
open Go.RowKit

/-- Append, and that nothing but the row's own block may have changed. -/
theorem step_append_grown {P : Program} {w : World} {ops : Array Oper} {o : Oper} {a : Act} {K : Act → World → Prop} {Q : Exit → Act → World → Prop} {E : Prop} (s x : Operand) (t : TypeId)
    {base : Nat} {e : TypeId} {i : TypeInfo} {z : Value} {size bytes : Nat} {v : Value} {n : Nat} {xs : List Value} {A : Option Addr} {m c : Nat} {news : List Value} (hgd : o.guard = Option.none)
    (ho : o.op = .call { callee := .builtin .append, args := #[s, x], argTypes := #[t, t] })
    (ht : P.underlying t = some (.slice e)) (hi : P.info? e = some i) (hz : i.zero = some z) (hsize : i.size = size) (hby : i.bytes = bytes) (hzs : z.cells.size = size) (hsz : 0 < size)
    (hs : a.eval s = v) (hown : w.ownsRow base e size v n xs) (hx : a.eval x = .slice A m c) (hr : Src w size A m news) (h1 : ∀ u ∈ news, u.oneCell' = true)
    (h63 : n + m ≤ maxLen) (hbytes : (n + m) * bytes ≤ 140737488355328) (hbase : base ≤ w.heap.size)
    (h : ∀ v' w', w'.ownsRow base e size v' (n + m) (xs ++ news) → w.grownBy w' v.ownBlock → (v'.ownBlock = v.ownBlock ∨ v'.ownBlock = some w.heap.size) → K (a.put o.dst v') w') :
    if Region.wanted o (yielded ops a.tmps) = true then Oper.wp P o a w K Q else E := by
  have hw : Region.wanted o (yielded ops a.tmps) = true := by simp [Region.wanted, hgd]
  rw [if_pos hw]
  obtain ⟨v', w', hrun, h2, h3, h4⟩ := run_append_src (P := P) w base t o.type e i z size bytes ht hi hz hsize hby hzs hsz v n xs hown A m c news hr h1 h63 hbytes hbase
  unfold Oper.wp execOp
  simp only [ho, resolve, invoke, builtin, Sem.run_bind, Sem.run_pure, Result.andThen_ok, List.map_toArray, List.map_cons, List.map_nil, hs, hx, hrun]
  exact h v' w' h2 h3 h4
theorem src_new (w : World) (e : Ev) (t : TypeId) : Src (w.alloc (Obj.cells #[.int .i64 e.time, .int .i64 e.device, .int .i64 e.signal, .bool e.value, .int .i64 e.quality] t)) 5 (some ⟨w.heap.size, 0, Option.none⟩) 1 e.cells := by
  refine ⟨rfl, fun _ => ⟨_, rfl, fun j u hu => ?_⟩⟩
  rw [Addr.add_mid, Nat.zero_add]
  have h2 := cell_of_row (w.alloc (Obj.cells #[.int .i64 e.time, .int .i64 e.device, .int .i64 e.signal, .bool e.value, .int .i64 e.quality] t)) w.heap.size j _ t (0, 0) (heap_alloc_new w _)
  rw [h2]
  simpa [Ev.cells] using hu
theorem src_kept {w w' : World} {size n b : Nat} {cells : List Value} (h : Src w size (some ⟨b, 0, Option.none⟩) n cells) (hb : w'.heap[b]? = w.heap[b]?) : Src w' size (some ⟨b, 0, Option.none⟩) n cells := by
  refine ⟨h.1, fun hn => ?_⟩
  obtain ⟨ad, e, hc⟩ := h.2 hn
  cases e
  refine ⟨_, rfl, fun j u hu => ?_⟩
  have := hc j u hu
  rw [Addr.add_mid] at this ⊢
  simp only [World.cell?] at this ⊢
  rw [hb]
  exact this

theorem src_drop_if {w : World} {B n c : Nat} {ad : Addr} {es : List Ev} (h : Rws EvC 5 w B (some ad) n es) {k : Nat} (hk : k ≤ n) (hc : n ≤ c) : Src w 5 (if c = k then some ad else some (ad.add (k * 5))) (n - k) (evCells (es.drop k)) := by
  split
  · exact src_zero h (by omega)
  · exact src_drop h hk

set_option maxRecDepth 100000 in
set_option maxHeartbeats 4000000 in
theorem rinsert_any (A : Option Addr) (c B : Nat) (es : List Ev) (e : Ev) (w : World) (hB : B ≤ w.heap.size) (hr : Rws EvC 5 w B A es.length es) (hc : es.length ≤ c) (hA : A = Option.none → c = 0) (hlen : es.length ≤ 1000) :
    Calls Tryd.prog 35 #[.slice A es.length c, .agg e.cells.toArray] w (RetRow 26 5 (es.length + 1) (evCells (insE es e)) w) := by
  unfold Ev.cells
  have hbox := box_below w (Obj.cells #[.int .i64 e.time, .int .i64 e.device, .int .i64 e.signal, .bool e.value, .int .i64 e.quality] 26)
  have EN := EB.new w e 26
  go_enter Tryd.func35, Tryd.ntmps35
  go_wp2
  have hw5 : w.heap.size < (w.alloc (Obj.cells #[.int .i64 e.time, .int .i64 e.device, .int .i64 e.signal, .bool e.value, .int .i64 e.quality] 26)).heap.size := by simp
  generalize w.alloc (Obj.cells #[.int .i64 e.time, .int .i64 e.device, .int .i64 e.signal, .bool e.value, .int .i64 e.quality] 26) = w5 at *
  have hs5 := hbox.size
  go_loopw [5] (fun i wr => ∃ k : Nat, k ≤ es.length ∧ i = .int .i64 k ∧ pos e es = insPos e es k ∧ Below w5.heap.size w5 wr) (fun i _ => (intOf i).toNat)
  case atStart => exact ⟨es.length, Nat.le_refl _, rfl, rfl, Below.refl _ _⟩
  case round =>
    obtain ⟨k, hk, rfl, hpos, hbel⟩ := hrel
    have HP := Lib.hid hpos
    have hsz := hbel.size
    have E0 := EN.below hbel hw5
    have hbw := hbox.trans (hbel.mono hs5)
    obtain ⟨q0, q1, q2, q3, q4⟩ := id E0
    clear hpos
    go_upto_region 2 with fail
    go_cut [18] (AtR w5 e es k)
    case first =>
      rcases Nat.eq_zero_or_pos k with rfl | hkp
      · go_wp2
        go_quiet (fail)
        go_wp2_with fail
        go_meet
        exact ⟨false, rfl, (fun h => by cases h), fun _ => rfl, below_drewN hbel _⟩
      · obtain ⟨b, o, y, rfl, hbB, hy, F0⟩ := evAt hr (show k - 1 < es.length by omega)
        have FY := F0.below (hbw.mono hB) hbB
        obtain ⟨r0, r1, r2, r3, r4⟩ := id FY
        have CB := fun W => rbefore_any e y W
        unfold Ev.cells at CB
        have hd1 := insPos_down (e := e) hkp hy
        have hd2 := insPos_stop (e := e) hkp hy
        generalize beforeB e y = bb at *
        have HCB := Lib.hid CB
        have HD1 := Lib.hid hd1
        have HD2 := Lib.hid hd2
        have n0 : (0 : Int) < (k : Int) := by omega
        have n1 : ((k : Int) - 1).toNat = k - 1 := by omega
        have n2 : IntKind.i64.wrap ((k : Int) - 1) = (k : Int) - 1 := IntWalk.i64_in _ (by omega)
        have n3 : (0 : Int) ≤ (k : Int) - 1 := by omega
        have n4 : (1 : Int) ≤ (k : Int) := by omega
        have n5 : (k : Int) - 1 < (es.length : Int) := by omega
        have n6 : decide ((0 : Int) < (k : Int)) = true := by simpa using hkp
        have N1 := Lib.hid n1
        have N2 := Lib.hid n2
        have hb3' : b < wr.heap.size := by omega
        have hl4 : w.heap.size < wr.heap.size := by omega
        clear hy F0 CB n1 n2 hd1 hd2
        go_wp2
        have n1 := N1.out
        have n2 := N2.out
        go_region_held3 (fun w' => (w'.cell? ⟨w.heap.size, 0, Option.none⟩ = some (.int .i64 e.time) ∧ w'.cell? ⟨w.heap.size, 1, Option.none⟩ = some (.int .i64 e.device) ∧ w'.cell? ⟨w.heap.size, 2, Option.none⟩ = some (.int .i64 e.signal) ∧ w'.cell? ⟨w.heap.size, 3, Option.none⟩ = some (.bool e.value) ∧ w'.cell? ⟨w.heap.size, 4, Option.none⟩ = some (.int .i64 e.quality)) ∧
            w'.cell? ⟨b, o + (k - 1) * 5, Option.none⟩ = some (.int .i64 y.time) ∧ w'.cell? ⟨b, o + (k - 1) * 5 + 1, Option.none⟩ = some (.int .i64 y.device) ∧ w'.cell? ⟨b, o + (k - 1) * 5 + 2, Option.none⟩ = some (.int .i64 y.signal) ∧ w'.cell? ⟨b, o + (k - 1) * 5 + 3, Option.none⟩ = some (.bool y.value) ∧ w'.cell? ⟨b, o + (k - 1) * 5 + 4, Option.none⟩ = some (.int .i64 y.quality)) (first | go_keep | exact s5)
          (first
            | ((go_at_call 20; refine (HCB.out _).mono ?_; rintro e' w6 ⟨rfl, hb6'⟩; have hb6 := below_same (a := wr) (B' := wr.heap.size) hb6' rfl rfl rfl rfl (Nat.le_refl _); obtain ⟨t0, t1, t2, t3, t4⟩ := E0.below hb6 hl4; obtain ⟨v0, v1, v2, v3, v4⟩ := FY.below hb6 hb3')))
        clear n1 n2
        go_wp2_with fail
        go_meet
        exact ⟨bb, rfl, fun h => ⟨hkp, HD1.out h⟩, HD2.out, hbel.trans (hb6.mono hsz)⟩
    case rest =>
      obtain ⟨bb, rfl, h1, h2, hbc⟩ := hcut
      clear E0 q0 q1 q2 q3 q4 hbel hbw
      cases bb with
      | true =>
        obtain ⟨hkp, hd⟩ := h1 rfl
        have HD := Lib.hid hd
        clear h1 h2 hd
        have n4 : (1 : Int) ≤ (k : Int) := by omega
        go_wp2
        go_roundw
        case rel => exact ⟨k - 1, by omega, by go_num, by rw [HP.out, HD.out], hbc⟩
        case measure => simp [intOf]; omega
      | false =>
        have hpk : pos e es = k := by rw [HP.out, h2 rfl]
        have HK := Lib.hid hpk
        clear h1 h2 hpk HP hsz
        have hbw := hbox.trans (hbc.mono hs5)
        have hswc := hbw.size
        have E0 := EN.below hbc hw5
        have hlw : w.heap.size < wc.heap.size := by have := hbc.size; omega
        obtain ⟨q0, q1, q2, q3, q4⟩ := id E0
        obtain ⟨i0, hi, hz0, hz1, hz2⟩ := info_parts infoEv
        have k0 : (0 : Int) ≤ (k : Int) := by omega
        have k1 : (k : Int) ≤ (es.length : Int) := by omega
        have k2 : (k : Int) ≤ (c : Int) := by omega
        have hAll := fun W (hb : Below wc.heap.size wc W) => hr.mono EvC.mono (Nat.le_refl _) ((hbw.trans (hb.mono hswc)).mono hB)
        have hCV : ∀ (v : Value) (W : World), W.ownsRow wc.heap.size 26 5 v (0 + k + 1 + (es.length - k)) (([] ++ evCells (es.take k)) ++ e.cells ++ evCells (es.drop k)) → W.ownsRow wc.heap.size 26 5 v (es.length + 1) (evCells (insE es e)) := fun v W h => by
          rw [insE_cells, HK.out]
          rw [show 0 + k + 1 + (es.length - k) = es.length + 1 by omega, List.nil_append] at h
          exact h
        have HCV := Lib.hid hCV
        have on1 := evCells_one (es.take k)
        have on2 := evCells_one (es.drop k)
        have on3 : ∀ u ∈ e.cells, u.oneCell' = true := ev_one e
        have m1 : 0 + k ≤ maxLen := by unfold maxLen; omega
        have m2 : (0 + k) * 40 ≤ 140737488355328 := by omega
        have m3 : 0 + k + 1 ≤ maxLen := by unfold maxLen; omega
        have m4 : (0 + k + 1) * 40 ≤ 140737488355328 := by omega
        have m5 : 0 + k + 1 + (es.length - k) ≤ maxLen := by unfold maxLen; omega
        have m6 : (0 + k + 1 + (es.length - k)) * 40 ≤ 140737488355328 := by omega
        have o1 : (wc.alloc (Obj.cells #[] 26)).drew.ownsRow wc.heap.size 26 5 (.slice (some ⟨wc.heap.size, 0, Option.none⟩) 0 0) 0 [] := World.ownsRow_lit (base := wc.heap.size) (e := 26) (size := 5) wc #[] 0 (Nat.le_refl _) (Nat.zero_le _) rfl
        have o2 : ((wc.alloc (Obj.cells #[] 26)).alloc (Obj.cells #[.int .i64 e.time, .int .i64 e.device, .int .i64 e.signal, .bool e.value, .int .i64 e.quality] 26)).drew.ownsRow wc.heap.size 26 5 (.slice (some ⟨wc.heap.size, 0, Option.none⟩) 0 0) 0 [] := (World.ownsRow_lit (base := wc.heap.size) (e := 26) (size := 5) wc #[] 0 (Nat.le_refl _) (Nat.zero_le _) rfl).alloc _
        have o3 : ((wc.alloc (Obj.cells #[.int .i64 e.time, .int .i64 e.device, .int .i64 e.signal, .bool e.value, .int .i64 e.quality] 26)).alloc (Obj.cells #[] 26)).drew.ownsRow wc.heap.size 26 5 (.slice (some ⟨wc.heap.size + 1, 0, Option.none⟩) 0 0) 0 [] := by
          have := World.ownsRow_lit (base := wc.heap.size) (e := 26) (size := 5) (wc.alloc (Obj.cells #[.int .i64 e.time, .int .i64 e.device, .int .i64 e.signal, .bool e.value, .int .i64 e.quality] 26)) #[] 0 (by simp) (Nat.zero_le _) rfl
          have h' : ((wc.alloc (Obj.cells #[.int .i64 e.time, .int .i64 e.device, .int .i64 e.signal, .bool e.value, .int .i64 e.quality] 26)).alloc (Obj.cells #[] 26)).ownsRow wc.heap.size 26 5 (.slice (some ⟨wc.heap.size + 1, 0, Option.none⟩) 0 0) 0 [] := by simpa using this
          exact h'
        have b1 : Below wc.heap.size wc (wc.alloc (Obj.cells #[] 26)).drew := (box_below wc _).drew
        have b2 : Below wc.heap.size wc ((wc.alloc (Obj.cells #[] 26)).alloc (Obj.cells #[.int .i64 e.time, .int .i64 e.device, .int .i64 e.signal, .bool e.value, .int .i64 e.quality] 26)).drew := ((box_below wc _).alloc (by simp) _).drew
        have b3 : Below wc.heap.size wc ((wc.alloc (Obj.cells #[.int .i64 e.time, .int .i64 e.device, .int .i64 e.signal, .bool e.value, .int .i64 e.quality] 26)).alloc (Obj.cells #[] 26)).drew := ((box_below wc _).alloc (by simp) _).drew
        have x2 : Src ((wc.alloc (Obj.cells #[] 26)).alloc (Obj.cells #[.int .i64 e.time, .int .i64 e.device, .int .i64 e.signal, .bool e.value, .int .i64 e.quality] 26)).drew 5 (some ⟨wc.heap.size + 1, 0, Option.none⟩) 1 e.cells := by
          have := src_new (wc.alloc (Obj.cells #[] 26)) e 26
          rw [World.size_alloc] at this
          exact this
        have x3 : Src ((wc.alloc (Obj.cells #[.int .i64 e.time, .int .i64 e.device, .int .i64 e.signal, .bool e.value, .int .i64 e.quality] 26)).alloc (Obj.cells #[] 26)).drew 5 (some ⟨wc.heap.size, 0, Option.none⟩) 1 e.cells := src_kept (src_new wc e 26) (Below.heap_alloc _ _ _ (by simp))
        have K2 : ∀ W', ((wc.alloc (Obj.cells #[] 26)).alloc (Obj.cells #[.int .i64 e.time, .int .i64 e.device, .int .i64 e.signal, .bool e.value, .int .i64 e.quality] 26)).drew.grownBy W' (Value.slice (some ⟨wc.heap.size, 0, Option.none⟩) 0 0).ownBlock → Src W' 5 (some ⟨wc.heap.size + 1, 0, Option.none⟩) 1 e.cells := fun W' hg => src_kept x2 (hg.block _ (by show wc.heap.size + 1 < ((wc.alloc (Obj.cells #[] 26)).alloc (Obj.cells #[.int .i64 e.time, .int .i64 e.device, .int .i64 e.signal, .bool e.value, .int .i64 e.quality] 26)).heap.size; simp only [World.size_alloc]; omega) (by simp only [Value.ownBlock, ne_eq, Option.some.injEq]; omega))
        have K3 : ∀ W', ((wc.alloc (Obj.cells #[.int .i64 e.time, .int .i64 e.device, .int .i64 e.signal, .bool e.value, .int .i64 e.quality] 26)).alloc (Obj.cells #[] 26)).drew.grownBy W' (Value.slice (some ⟨wc.heap.size + 1, 0, Option.none⟩) 0 0).ownBlock → Src W' 5 (some ⟨wc.heap.size, 0, Option.none⟩) 1 e.cells := fun W' hg => src_kept x3 (hg.block _ (by show wc.heap.size < ((wc.alloc (Obj.cells #[.int .i64 e.time, .int .i64 e.device, .int .i64 e.signal, .bool e.value, .int .i64 e.quality] 26)).alloc (Obj.cells #[] 26)).heap.size; simp only [World.size_alloc]; omega) (by simp only [Value.ownBlock, ne_eq, Option.some.injEq]; omega))
        have z1 := b1.size
        have z2 := b2.size
        have z3 := b3.size
        have HK2 := Lib.hid K2
        have HK3 := Lib.hid K3
        have lx : w.heap.size < wc.heap.size + 1 := by omega
        have hfin : ∀ (v : Value) (W : World), W.ownsRow wc.heap.size 26 5 v (es.length + 1) (evCells (insE es e)) → Below wc.heap.size wc W → RetRow 26 5 (es.length + 1) (evCells (insE es e)) w (.returned v) W := fun v W ho hb => RetRow.mk ho hswc (hbw.trans (hb.mono hswc))
        have HFIN := Lib.hid hfin
        clear hCV K2 K3 x2 x3 hfin
        cases A with
        | none =>
          have hn0 : es.length ≤ k := by have := hA rfl; omega
          have SD := fun W hb => src_zero (A' := Option.none) (hAll W hb) hn0
          have ST := fun W hb => src_take (hAll W hb) hk
          clear hn0 hA
          have s1 := ST _ b1
          have s2 := ST _ b2
          have s3 := ST _ b3
          have HSD := Lib.hid SD
          clear SD ST hAll hr
          go_wp2
          go_region_held3 (fun w' => w'.cell? ⟨w.heap.size, 0, Option.none⟩ = some (.int .i64 e.time) ∧ w'.cell? ⟨w.heap.size, 1, Option.none⟩ = some (.int .i64 e.device) ∧ w'.cell? ⟨w.heap.size, 2, Option.none⟩ = some (.int .i64 e.signal) ∧ w'.cell? ⟨w.heap.size, 3, Option.none⟩ = some (.bool e.value) ∧ w'.cell? ⟨w.heap.size, 4, Option.none⟩ = some (.int .i64 e.quality)) (go_keep)
            (first
             | ((refine step_append_grown (o := ⟨some 25, _, _, _, _, _⟩) (w := (wc.alloc (Obj.cells #[] 26)).drew) _ _ 22 rfl rfl Tryd.underlying22 hi hz0 hz1 hz2 rfl (by decide) rfl o1 rfl s1 on1 m1 m2 z1 ?_; intro v1 w1 hown1 hg1 hv1; have hb1 := b1.grown hg1 z1 (fun k hk => (o1.lt k hk).1); obtain ⟨t0, t1, t2, t3, t4⟩ := E0.below hb1 hlw))
             | ((refine step_append_grown (o := ⟨some 25, _, _, _, _, _⟩) (w := ((wc.alloc (Obj.cells #[] 26)).alloc (Obj.cells #[.int .i64 e.time, .int .i64 e.device, .int .i64 e.signal, .bool e.value, .int .i64 e.quality] 26)).drew) _ _ 22 rfl rfl Tryd.underlying22 hi hz0 hz1 hz2 rfl (by decide) rfl o2 rfl s2 on1 m1 m2 z2 ?_; intro v1 w1 hown1 hg1 hv1; have hb1 := b2.grown hg1 z2 (fun k hk => (o2.lt k hk).1); obtain ⟨t0, t1, t2, t3, t4⟩ := E0.below hb1 hlw; have sx := HK2.out _ hg1))
             | ((refine step_append_grown (o := ⟨some 25, _, _, _, _, _⟩) (w := ((wc.alloc (Obj.cells #[.int .i64 e.time, .int .i64 e.device, .int .i64 e.signal, .bool e.value, .int .i64 e.quality] 26)).alloc (Obj.cells #[] 26)).drew) _ _ 22 rfl rfl Tryd.underlying22 hi hz0 hz1 hz2 rfl (by decide) rfl o3 rfl s3 on1 m1 m2 z3 ?_; intro v1 w1 hown1 hg1 hv1; have hb1 := b3.grown hg1 z3 (fun k hk => (o3.lt k hk).1); obtain ⟨t0, t1, t2, t3, t4⟩ := E0.below hb1 hlw; have sx := HK3.out _ hg1))
             | ((refine step_append_grown (o := ⟨some 28, _, _, _, _, _⟩) (w := w1.alloc (Obj.cells #[.int .i64 e.time, .int .i64 e.device, .int .i64 e.signal, .bool e.value, .int .i64 e.quality] 26)) _ _ 22 rfl rfl Tryd.underlying22 hi hz0 hz1 hz2 rfl (by decide) rfl (hown1.alloc _) rfl (src_new w1 e 26) on3 m3 m4 (hb1.alloc hb1.size _).size ?_; intro v2 w2 hown2 hg2 hv2; have hb2 := (hb1.alloc hb1.size _).grown hg2 (hb1.alloc hb1.size _).size (fun k hk => (hown1.lt k hk).1); obtain ⟨t0, t1, t2, t3, t4⟩ := E0.below hb2 hlw))
             | ((refine step_append_grown (o := ⟨some 28, _, _, _, _, _⟩) (w := w1) _ _ 22 rfl rfl Tryd.underlying22 hi hz0 hz1 hz2 rfl (by decide) rfl hown1 rfl sx on3 m3 m4 hb1.size ?_; intro v2 w2 hown2 hg2 hv2; have hb2 := hb1.grown hg2 hb1.size (fun k hk => (hown1.lt k hk).1); obtain ⟨t0, t1, t2, t3, t4⟩ := E0.below hb2 hlw))
             | ((refine step_append_grown (o := ⟨some 32, _, _, _, _, _⟩) (w := w2) _ _ 22 rfl rfl Tryd.underlying22 hi hz0 hz1 hz2 rfl (by decide) rfl hown2 rfl (HSD.out _ hb2) on2 m5 m6 hb2.size ?_; intro v3 w3 hown3 hg3 hv3; have hb3 := hb2.grown hg3 hb2.size (fun k hk => (hown2.lt k hk).1); obtain ⟨t0, t1, t2, t3, t4⟩ := E0.below hb3 hlw)))
          all_goals
            go_wp2
            all_goals
              go_ret
              exact HFIN.out _ _ (HCV.out _ _ hown3) hb3
        | some ad =>
          clear hA
          have SD := fun W hb => src_drop_if (hAll W hb) hk hc
          have ST := fun W hb => src_take (hAll W hb) hk
          have s1 := ST _ b1
          have s2 := ST _ b2
          have s3 := ST _ b3
          have HSD := Lib.hid SD
          clear SD ST hAll hr
          go_wp2
          go_region_held3 (fun w' => w'.cell? ⟨w.heap.size, 0, Option.none⟩ = some (.int .i64 e.time) ∧ w'.cell? ⟨w.heap.size, 1, Option.none⟩ = some (.int .i64 e.device) ∧ w'.cell? ⟨w.heap.size, 2, Option.none⟩ = some (.int .i64 e.signal) ∧ w'.cell? ⟨w.heap.size, 3, Option.none⟩ = some (.bool e.value) ∧ w'.cell? ⟨w.heap.size, 4, Option.none⟩ = some (.int .i64 e.quality)) (go_keep)
            (first
             | ((refine step_append_grown (o := ⟨some 25, _, _, _, _, _⟩) (w := (wc.alloc (Obj.cells #[] 26)).drew) _ _ 22 rfl rfl Tryd.underlying22 hi hz0 hz1 hz2 rfl (by decide) rfl o1 rfl s1 on1 m1 m2 z1 ?_; intro v1 w1 hown1 hg1 hv1; have hb1 := b1.grown hg1 z1 (fun k hk => (o1.lt k hk).1); obtain ⟨t0, t1, t2, t3, t4⟩ := E0.below hb1 hlw))
             | ((refine step_append_grown (o := ⟨some 25, _, _, _, _, _⟩) (w := ((wc.alloc (Obj.cells #[] 26)).alloc (Obj.cells #[.int .i64 e.time, .int .i64 e.device, .int .i64 e.signal, .bool e.value, .int .i64 e.quality] 26)).drew) _ _ 22 rfl rfl Tryd.underlying22 hi hz0 hz1 hz2 rfl (by decide) rfl o2 rfl s2 on1 m1 m2 z2 ?_; intro v1 w1 hown1 hg1 hv1; have hb1 := b2.grown hg1 z2 (fun k hk => (o2.lt k hk).1); obtain ⟨t0, t1, t2, t3, t4⟩ := E0.below hb1 hlw; have sx := HK2.out _ hg1))
             | ((refine step_append_grown (o := ⟨some 25, _, _, _, _, _⟩) (w := ((wc.alloc (Obj.cells #[.int .i64 e.time, .int .i64 e.device, .int .i64 e.signal, .bool e.value, .int .i64 e.quality] 26)).alloc (Obj.cells #[] 26)).drew) _ _ 22 rfl rfl Tryd.underlying22 hi hz0 hz1 hz2 rfl (by decide) rfl o3 rfl s3 on1 m1 m2 z3 ?_; intro v1 w1 hown1 hg1 hv1; have hb1 := b3.grown hg1 z3 (fun k hk => (o3.lt k hk).1); obtain ⟨t0, t1, t2, t3, t4⟩ := E0.below hb1 hlw; have sx := HK3.out _ hg1))
             | ((refine step_append_grown (o := ⟨some 28, _, _, _, _, _⟩) (w := w1.alloc (Obj.cells #[.int .i64 e.time, .int .i64 e.device, .int .i64 e.signal, .bool e.value, .int .i64 e.quality] 26)) _ _ 22 rfl rfl Tryd.underlying22 hi hz0 hz1 hz2 rfl (by decide) rfl (hown1.alloc _) rfl (src_new w1 e 26) on3 m3 m4 (hb1.alloc hb1.size _).size ?_; intro v2 w2 hown2 hg2 hv2; have hb2 := (hb1.alloc hb1.size _).grown hg2 (hb1.alloc hb1.size _).size (fun k hk => (hown1.lt k hk).1); obtain ⟨t0, t1, t2, t3, t4⟩ := E0.below hb2 hlw))
             | ((refine step_append_grown (o := ⟨some 28, _, _, _, _, _⟩) (w := w1) _ _ 22 rfl rfl Tryd.underlying22 hi hz0 hz1 hz2 rfl (by decide) rfl hown1 rfl sx on3 m3 m4 hb1.size ?_; intro v2 w2 hown2 hg2 hv2; have hb2 := hb1.grown hg2 hb1.size (fun k hk => (hown1.lt k hk).1); obtain ⟨t0, t1, t2, t3, t4⟩ := E0.below hb2 hlw))
             | ((refine step_append_grown (o := ⟨some 32, _, _, _, _, _⟩) (w := w2) _ _ 22 rfl rfl Tryd.underlying22 hi hz0 hz1 hz2 rfl (by decide) rfl hown2 rfl (HSD.out _ hb2) on2 m5 m6 hb2.size ?_; intro v3 w3 hown3 hg3 hv3; have hb3 := hb2.grown hg3 hb2.size (fun k hk => (hown2.lt k hk).1); obtain ⟨t0, t1, t2, t3, t4⟩ := E0.below hb3 hlw)))
          all_goals
            go_wp2
            all_goals
              go_ret
              exact HFIN.out _ _ (HCV.out _ _ hown3) hb3
end Go.Proofs.YtcoablindoknpaaDoor
