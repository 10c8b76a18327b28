/-
  The law SignalsUnpublished: taking away the publications of a device that is read makes the configuration wrong at the reader or before it.
-/
import Derived.Test.YtfncnhgopbmabaaDoorUnpubA
import Derived.Test.YtfncnhgopbmabaaDoorChecksL
import Derived.Deep.DeepMust
import Derived.Deep.DeepCutAuto
namespace Go.Proofs.YtfncnhgopbmabaaDoor
open Go.RowKit

attribute [local go_sem ↓] loadRelay_fold storeRelay_fold
attribute [local go_sem] loadRelay_row storeRelay_new

theorem infoRelayB : ((Tryd.prog.info? 34).any fun i => (i.zero.any fun z => z.cells.size == 53) && (i.size == 53) && decide (i.bytes ≤ 1000)) = true := by kernel_rfl
theorem relay_parts : ∃ i z, Tryd.prog.info? 34 = some i ∧ i.zero = some z ∧ i.size = 53 ∧ z.cells.size = 53 ∧ i.bytes ≤ 1000 := by
  have h := infoRelayB
  cases hi : Tryd.prog.info? 34 with
  | none => rw [hi] at h; simp at h
  | some i =>
    rw [hi] at h
    cases hz : i.zero with
    | none => simp [hz] at h
    | some z =>
      simp [hz] at h
      exact ⟨i, z, rfl, hz, h.1.2, h.1.1, h.2⟩

set_option maxRecDepth 100000 in
set_option maxHeartbeats 8000000 in
theorem unpublished_any (a0 a1 a2 a3 a4 : Value) (A : Option Addr) (c B : Nat) (rs : List RelayM) (relay sub : Int) (w : World) (hB : B ≤ w.heap.size) (h : Conf w B a0 a1 a2 a3 a4 A c rs) :
    Calls Tryd.prog 7 #[.agg #[a0, a1, a2, a3, a4, .slice A rs.length c], .int .i64 relay, .int .i64 sub] w (RetBool true w) := by
  have hbox := box_below w (Obj.cells #[a0, a1, a2, a3, a4, .slice A rs.length c] 49)
  have CB0 := CB.new w a0 a1 a2 a3 a4 (.slice A rs.length c) 49
  have H := Lib.hid h
  clear h
  go_enter Tryd.func7, Tryd.ntmps7
  go_wp2_with fail
  refine (known_any _).mono ?_
  rintro e w1 ⟨rfl, hb1⟩
  have CB1 := CB0.below hb1 CB0.lt
  have hw1 := hbox.trans (hb1.mono (by simp))
  have hs1 := hw1.size
  clear hb1 CB0 hbox
  obtain ⟨-, q0, q1, q2, q3, q4, q5⟩ := id CB1
  go_wp2_with fail
  refine (clarge_any a0 a1 a2 a3 a4 A c B rs w1 (by omega) (H.out.mono (Nat.le_refl _) (hw1.mono hB))).mono ?_
  rintro e w2 ⟨b, hsm, rfl, hb2⟩
  have hw2 := hw1.trans (hb2.mono hs1)
  have CB2 := CB1.below hb2 CB1.lt
  have hs2 := hw2.size
  clear hb2 CB1 q0 q1 q2 q3 q4 q5
  cases b
  case true =>
    go_wp2
    go_ret
    exact ⟨rfl, hw2⟩
  have hS : SmallAll rs := hsm rfl
  have HS := Lib.hid hS
  have hn20 := hS.1
  clear hsm hS
  obtain ⟨-, q0, q1, q2, q3, q4, q5⟩ := id CB2
  go_wp2_with fail
  refine (rCheck_any a0 a1 a2 a3 a4 A c B rs w2 (by omega) (H.out.mono (Nat.le_refl _) (hw2.mono hB)) HS.out).mono ?_
  rintro e w3 ⟨rfl, hb3⟩
  have hw3 := hw2.trans (hb3.mono hs2)
  have CB3 := CB2.below hb3 CB2.lt
  have hs3 := hw3.size
  clear hb3 CB2 q0 q1 q2 q3 q4 q5
  have hck := check_zero (rs := rs) (n := rs.length)
  generalize checkUpto rs rs.length = p at *
  obtain ⟨-, q0, q1, q2, q3, q4, q5⟩ := id CB3
  have HCK := Lib.hid hck
  clear hck
  go_wp2_with fail
  refine (rFind_any a0 a1 a2 a3 a4 A c B rs relay sub w3 (by omega) (H.out.mono (Nat.le_refl _) (hw3.mono hB)) HS.out).mono ?_
  rintro e w4 ⟨rfl, hb4⟩
  have hw4 := hw3.trans (hb4.mono hs3)
  have CB4 := CB3.below hb4 CB3.lt
  have hs4 := hw4.size
  clear hb4 CB3 q0 q1 q2 q3 q4 q5
  generalize hF : FindP rs relay sub = f at *
  have HF := Lib.hid hF
  have hw4' := hw4.alloc hs4 (Obj.cells #[.int .i64 f.1, .int .i64 f.2.1, .int .i64 f.2.2.1] 56)
  clear hF
  cases hz : (p.2 != 0) with
  | true =>
    go_wp2
    go_ret
    exact ⟨rfl, hw4'⟩
  | false =>
  cases hz2 : (f.2.2.2 != 0) with
  | true =>
    go_wp2
    go_ret
    exact ⟨rfl, hw4'⟩
  | false =>
  have hall := HCK.out (by simpa using hz)
  obtain ⟨i, k, r0, x, rfl, rfl, hr0, hx0, hsk⟩ := find_in (rs := rs) (relay := relay) (sub := sub) (by rw [HF.out]; simpa using hz2)
  obtain ⟨d, s, j, r, ds, hF2, D⟩ := find_ok hr0 hx0 hsk
  obtain rfl : f = ((d : Int), (s : Int), (j : Int), 0) := by rw [← HF.out, hF2]
  have hdl : d < rs.length := (List.getElem?_eq_some_iff.1 D.relay).1
  have hlaw := muted_check (d := d) hr0 hx0 hall (by rw [hF2])
  obtain ⟨css, hcl, hcsz, hcsR, hbare⟩ := rws_cells H.out.rows
  have hone := flat_one (css := css) (fun cs hm v hv => by
    obtain ⟨q, hq⟩ := List.getElem?_of_mem hm
    have hql : q < rs.length := by have := (List.getElem?_eq_some_iff.1 hq).1; omega
    exact (hcsR q cs _ hq (List.getElem?_eq_getElem hql)).one v hv)
  have HL := Lib.hid hlaw
  have HO := Lib.hid hone
  have HCR := Lib.hid hcsR
  have HCZ := Lib.hid hcsz
  clear HF HCK hall hr0 hx0 hsk hF2 D hlaw hone hcsR hcsz
  obtain ⟨hlt4, q0, q1, q2, q3, q4, q5⟩ := id CB4
  dsimp only at hz2 hw4' ⊢
  clear hz2
  go_upto_region 9 with fail
  have CB5 := CB4.below (box_below w4 (Obj.cells #[.int .i64 (d : Int), .int .i64 (s : Int), .int .i64 (j : Int)] 56)) hlt4
  have u0 : (w4.alloc (Obj.cells #[.int .i64 (d : Int), .int .i64 (s : Int), .int .i64 (j : Int)] 56)).cell? ⟨w4.heap.size, 0, Option.none⟩ = some (.int .i64 (d : Int)) := by go_simp
  have hs5 : w4.heap.size < (w4.alloc (Obj.cells #[.int .i64 (d : Int), .int .i64 (s : Int), .int .i64 (j : Int)] 56)).heap.size := by simp
  generalize w4.alloc (Obj.cells #[.int .i64 (d : Int), .int .i64 (s : Int), .int .i64 (j : Int)] 56) = W5 at *
  clear q0 q1 q2 q3 q4 q5
  obtain ⟨hlt5, q0, q1, q2, q3, q4, q5⟩ := id CB5
  obtain ⟨i0, zr, hi, hz0, hz1, hzs, hby⟩ := relay_parts
  go_cut [11] (XAt W5 34 rs.length css.flatten a0 a1 a2 a3 a4)
  case first =>
    have hmx : 0 + rs.length ≤ maxLen := by unfold maxLen; omega
    have hbx : (0 + rs.length) * i0.bytes ≤ 140737488355328 := by
      have : (0 + rs.length) * i0.bytes ≤ 20 * 1000 := Nat.mul_le_mul (by omega) hby
      omega
    have HSRC : ∀ W' : World, Below W5.heap.size W5 W' → Src W' 53 A rs.length css.flatten := fun W' hb => src_of_bare (by decide) (hbare.mono Bare.mono (Nat.le_refl _) ((hw4'.trans (hb.mono (by omega))).mono hB)) HCZ.out
    have o1 : (W5.alloc (Obj.cells #[] 34)).drew.ownsRow W5.heap.size 34 53 (.slice (some ⟨W5.heap.size, 0, Option.none⟩) 0 0) 0 [] := World.ownsRow_lit (base := W5.heap.size) (e := 34) (size := 53) W5 #[] 0 (Nat.le_refl _) (Nat.zero_le _) rfl
    have o2 : ((W5.alloc (Obj.cells #[] 34)).alloc (Obj.cells #[.string ⟨#[]⟩, .slice Option.none 0 0, .slice Option.none 0 0, .slice Option.none 0 0, .slice Option.none 0 0, .slice Option.none 0 0] 49)).drew.ownsRow W5.heap.size 34 53 (.slice (some ⟨W5.heap.size, 0, Option.none⟩) 0 0) 0 [] := (World.ownsRow_lit (base := W5.heap.size) (e := 34) (size := 53) W5 #[] 0 (Nat.le_refl _) (Nat.zero_le _) rfl).alloc _
    have o3 : ((W5.alloc (Obj.cells #[.string ⟨#[]⟩, .slice Option.none 0 0, .slice Option.none 0 0, .slice Option.none 0 0, .slice Option.none 0 0, .slice Option.none 0 0] 49)).alloc (Obj.cells #[] 34)).drew.ownsRow W5.heap.size 34 53 (.slice (some ⟨W5.heap.size + 1, 0, Option.none⟩) 0 0) 0 [] := by
      have := World.ownsRow_lit (base := W5.heap.size) (e := 34) (size := 53) (W5.alloc (Obj.cells #[.string ⟨#[]⟩, .slice Option.none 0 0, .slice Option.none 0 0, .slice Option.none 0 0, .slice Option.none 0 0, .slice Option.none 0 0] 49)) #[] 0 (by simp) (Nat.zero_le _) rfl
      have h' : ((W5.alloc (Obj.cells #[.string ⟨#[]⟩, .slice Option.none 0 0, .slice Option.none 0 0, .slice Option.none 0 0, .slice Option.none 0 0, .slice Option.none 0 0] 49)).alloc (Obj.cells #[] 34)).ownsRow W5.heap.size 34 53 (.slice (some ⟨W5.heap.size + 1, 0, Option.none⟩) 0 0) 0 [] := by simpa using this
      exact h'
    have b1 : Below W5.heap.size W5 (W5.alloc (Obj.cells #[] 34)).drew := (box_below W5 _).drew
    have b2 : Below W5.heap.size W5 ((W5.alloc (Obj.cells #[] 34)).alloc (Obj.cells #[.string ⟨#[]⟩, .slice Option.none 0 0, .slice Option.none 0 0, .slice Option.none 0 0, .slice Option.none 0 0, .slice Option.none 0 0] 49)).drew := ((box_below W5 _).alloc (by simp) _).drew
    have b3 : Below W5.heap.size W5 ((W5.alloc (Obj.cells #[.string ⟨#[]⟩, .slice Option.none 0 0, .slice Option.none 0 0, .slice Option.none 0 0, .slice Option.none 0 0, .slice Option.none 0 0] 49)).alloc (Obj.cells #[] 34)).drew := ((box_below W5 _).alloc (by simp) _).drew
    have x2 : Box6 ((W5.alloc (Obj.cells #[] 34)).alloc (Obj.cells #[.string ⟨#[]⟩, .slice Option.none 0 0, .slice Option.none 0 0, .slice Option.none 0 0, .slice Option.none 0 0, .slice Option.none 0 0] 49)).drew (W5.heap.size + 1) 49 #[.string ⟨#[]⟩, .slice Option.none 0 0, .slice Option.none 0 0, .slice Option.none 0 0, .slice Option.none 0 0, .slice Option.none 0 0] := by
      have := Box6.new (W5.alloc (Obj.cells #[] 34)) 49 #[.string ⟨#[]⟩, .slice Option.none 0 0, .slice Option.none 0 0, .slice Option.none 0 0, .slice Option.none 0 0, .slice Option.none 0 0]
      have h' := this.at_
      rw [World.size_alloc] at h'
      exact ⟨h'⟩
    have x3 : Box6 ((W5.alloc (Obj.cells #[.string ⟨#[]⟩, .slice Option.none 0 0, .slice Option.none 0 0, .slice Option.none 0 0, .slice Option.none 0 0, .slice Option.none 0 0] 49)).alloc (Obj.cells #[] 34)).drew W5.heap.size 49 #[.string ⟨#[]⟩, .slice Option.none 0 0, .slice Option.none 0 0, .slice Option.none 0 0, .slice Option.none 0 0, .slice Option.none 0 0] := ⟨((Box6.new W5 49 _).alloc _).at_⟩
    have s1 := HSRC _ b1
    have s2 := HSRC _ b2
    have s3 := HSRC _ b3
    have z1 := b1.size
    have z2 := b2.size
    have z3 := b3.size
    obtain ⟨n0, n1, n2, n3, n4⟩ := H.out.one
    have st0 : ∀ (w : World) (a : Addr), (store a a0).run Tryd.prog w = stored Tryd.prog w a a0 .plain := fun w a => run_store _ w a a0 _ n0
    have st1 : ∀ (w : World) (a : Addr), (store a a1).run Tryd.prog w = stored Tryd.prog w a a1 .plain := fun w a => run_store _ w a a1 _ n1
    have st2 : ∀ (w : World) (a : Addr), (store a a2).run Tryd.prog w = stored Tryd.prog w a a2 .plain := fun w a => run_store _ w a a2 _ n2
    have st3 : ∀ (w : World) (a : Addr), (store a a3).run Tryd.prog w = stored Tryd.prog w a a3 .plain := fun w a => run_store _ w a a3 _ n3
    have st4 : ∀ (w : World) (a : Addr), (store a a4).run Tryd.prog w = stored Tryd.prog w a a4 .plain := fun w a => run_store _ w a a4 _ n4
    have ne1 : ¬ w.heap.size = W5.heap.size := by omega
    have ne2 : ¬ w.heap.size = W5.heap.size + 1 := by omega
    have lx1 : w.heap.size < W5.heap.size + 1 := by omega
    have hne2 : (Value.slice (some ⟨W5.heap.size, 0, Option.none⟩) 0 0).ownBlock ≠ some (W5.heap.size + 1) := by simp [Value.ownBlock]
    have hne3 : (Value.slice (some ⟨W5.heap.size + 1, 0, Option.none⟩) 0 0).ownBlock ≠ some W5.heap.size := by simp [Value.ownBlock]
    have hnz2 : (some ((W5.alloc (Obj.cells #[] 34)).alloc (Obj.cells #[.string ⟨#[]⟩, .slice Option.none 0 0, .slice Option.none 0 0, .slice Option.none 0 0, .slice Option.none 0 0, .slice Option.none 0 0] 49)).drew.heap.size) ≠ some (W5.heap.size + 1) := by
      intro e; injection e with e
      have e' : ((W5.alloc (Obj.cells #[] 34)).alloc (Obj.cells #[.string ⟨#[]⟩, .slice Option.none 0 0, .slice Option.none 0 0, .slice Option.none 0 0, .slice Option.none 0 0, .slice Option.none 0 0] 49)).heap.size = W5.heap.size + 1 := e
      simp only [World.size_alloc] at e'; omega
    have hnz3 : (some ((W5.alloc (Obj.cells #[.string ⟨#[]⟩, .slice Option.none 0 0, .slice Option.none 0 0, .slice Option.none 0 0, .slice Option.none 0 0, .slice Option.none 0 0] 49)).alloc (Obj.cells #[] 34)).drew.heap.size) ≠ some W5.heap.size := by
      intro e; injection e with e
      have e' : ((W5.alloc (Obj.cells #[.string ⟨#[]⟩, .slice Option.none 0 0, .slice Option.none 0 0, .slice Option.none 0 0, .slice Option.none 0 0, .slice Option.none 0 0] 49)).alloc (Obj.cells #[] 34)).heap.size = W5.heap.size := e
      simp only [World.size_alloc] at e'; omega
    have HZ2 := Lib.hid hnz2
    have HZ3 := Lib.hid hnz3
    clear hnz2 hnz3
    have HN2 := Lib.hid hne2
    have HN3 := Lib.hid hne3
    clear hne2 hne3
    have HX2 := Lib.hid x2
    have HX3 := Lib.hid x3
    clear n0 n1 n2 n3 n4 HSRC hz x2 x3
    go_region_held3 (fun w' => w'.cell? ⟨w.heap.size, 0, Option.none⟩ = some a0 ∧ w'.cell? ⟨w.heap.size, 1, Option.none⟩ = some a1 ∧ w'.cell? ⟨w.heap.size, 2, Option.none⟩ = some a2 ∧ w'.cell? ⟨w.heap.size, 3, Option.none⟩ = some a3 ∧ w'.cell? ⟨w.heap.size, 4, Option.none⟩ = some a4 ∧ w'.cell? ⟨w.heap.size, 5, Option.none⟩ = some (.slice A rs.length c)) (first | go_keep | exact ⟨cell_set6 ne1 r0', cell_set6 ne1 r1', cell_set6 ne1 r2', cell_set6 ne1 r3', cell_set6 ne1 r4', cell_set6 ne1 r5'⟩ | exact ⟨cell_set6 ne2 r0', cell_set6 ne2 r1', cell_set6 ne2 r2', cell_set6 ne2 r3', cell_set6 ne2 r4', cell_set6 ne2 r5'⟩)
      (first
       | ((refine step_append_grown (o := ⟨some 43, _, _, _, _, _⟩) (w := (W5.alloc (Obj.cells #[] 34)).drew) _ _ 47 rfl rfl Tryd.underlying47 hi hz0 hz1 rfl hzs (by decide) rfl o1 rfl s1 HO.out hmx hbx z1 ?_; intro v6 w6 hown6 hg6 hv6; obtain ⟨A6, c6, he6, hnc6, hcm6⟩ := own_shape hown6; subst he6; have hb6 := b1.grown hg6 z1 (fun k hk => (o1.lt k hk).1); obtain ⟨-, r0', r1', r2', r3', r4', r5'⟩ := CB5.below hb6 hlt5))
       | ((refine step_append_grown (o := ⟨some 43, _, _, _, _, _⟩) (w := ((W5.alloc (Obj.cells #[] 34)).alloc (Obj.cells #[.string ⟨#[]⟩, .slice Option.none 0 0, .slice Option.none 0 0, .slice Option.none 0 0, .slice Option.none 0 0, .slice Option.none 0 0] 49)).drew) _ _ 47 rfl rfl Tryd.underlying47 hi hz0 hz1 rfl hzs (by decide) rfl o2 rfl s2 HO.out hmx hbx z2 ?_; intro v6 w6 hown6 hg6 hv6; obtain ⟨A6, c6, he6, hnc6, hcm6⟩ := own_shape hown6; subst he6; have hb6 := b2.grown hg6 z2 (fun k hk => (o2.lt k hk).1); obtain ⟨-, r0', r1', r2', r3', r4', r5'⟩ := CB5.below hb6 hlt5; have hx6 := HX2.out.grown hg6 HN2.out; have hq6 := Lib.hid (ne_of_or hv6 HN2.out HZ2.out); have y0 := hx6.cell 0; have y1 := hx6.cell 1; have y2 := hx6.cell 2; have y3 := hx6.cell 3; have y4 := hx6.cell 4; have y5 := hx6.cell 5; have f0 := hx6.free 0; have f1 := hx6.free 1; have f2 := hx6.free 2; have f3 := hx6.free 3; have f4 := hx6.free 4; have f5 := hx6.free 5; simp only [List.getElem?_toArray, List.getElem?_cons_zero, List.getElem?_cons_succ] at y0 y1 y2 y3 y4 y5))
       | ((refine step_append_grown (o := ⟨some 43, _, _, _, _, _⟩) (w := ((W5.alloc (Obj.cells #[.string ⟨#[]⟩, .slice Option.none 0 0, .slice Option.none 0 0, .slice Option.none 0 0, .slice Option.none 0 0, .slice Option.none 0 0] 49)).alloc (Obj.cells #[] 34)).drew) _ _ 47 rfl rfl Tryd.underlying47 hi hz0 hz1 rfl hzs (by decide) rfl o3 rfl s3 HO.out hmx hbx z3 ?_; intro v6 w6 hown6 hg6 hv6; obtain ⟨A6, c6, he6, hnc6, hcm6⟩ := own_shape hown6; subst he6; have hb6 := b3.grown hg6 z3 (fun k hk => (o3.lt k hk).1); obtain ⟨-, r0', r1', r2', r3', r4', r5'⟩ := CB5.below hb6 hlt5; have hx6 := HX3.out.grown hg6 HN3.out; have hq6 := Lib.hid (ne_of_or hv6 HN3.out HZ3.out); have y0 := hx6.cell 0; have y1 := hx6.cell 1; have y2 := hx6.cell 2; have y3 := hx6.cell 3; have y4 := hx6.cell 4; have y5 := hx6.cell 5; have f0 := hx6.free 0; have f1 := hx6.free 1; have f2 := hx6.free 2; have f3 := hx6.free 3; have f4 := hx6.free 4; have f5 := hx6.free 5; simp only [List.getElem?_toArray, List.getElem?_cons_zero, List.getElem?_cons_succ] at y0 y1 y2 y3 y4 y5)))
    · go_wp2_with fail
      go_meet
      simp only [Nat.zero_add, List.nil_append] at hown6 hnc6
      exact ⟨w6.heap.size, A6, c6, rfl, CB.new w6 a0 a1 a2 a3 a4 _ _, hnc6, hcm6, hown6.alloc _, hb6.alloc hb6.size _, hb6.size, fun he => absurd (hown6.lt _ he).2 (Nat.lt_irrefl _)⟩
    · go_wp2_with fail
      go_meet
      have hq := hq6.out
      simp only [Nat.zero_add, List.nil_append] at hown6 hnc6 hq
      exact xat_set hx6 hnc6 hcm6 hown6 hb6 (Nat.le_succ _) hq
    · go_wp2_with fail
      go_meet
      have hq := hq6.out
      simp only [Nat.zero_add, List.nil_append] at hown6 hnc6 hq
      exact xat_set hx6 hnc6 hcm6 hown6 hb6 (Nat.le_refl _) hq
  case rest =>
    obtain ⟨g, A6, c6, rfl, CBx, hn6, hm6, hown6, hbx6, hg6, hne6⟩ := hcut
    have hpos : 0 < rs.length := by omega
    obtain ⟨gA, capA, hvA, hgA, hltA⟩ := hown6.form hpos
    have hA6 : A6 = some ⟨gA, 0, Option.none⟩ := by injection hvA
    subst hA6
    have hRR := bare_of_own hown6 hcl HCZ.out
    obtain ⟨bq, oq, dq, xq, hAq, -, -, hdl53, -, hatq⟩ := hRR.at_ hdl
    cases hAq
    have hc51 : wc.cell? ⟨gA, d * 53 + 51, Option.none⟩ = some (dq[51]'(by omega)) := by
      have := hatq 51 _ (List.getElem?_eq_getElem (show 51 < dq.length by omega))
      simpa using this
    have hf51 := hown6.frozenAt (d * 53 + 51)
    have hwc := hw4'.trans (hbx6.mono (by omega))
    have hgw : w.heap.size ≤ gA := by omega
    have hRM := rws_mute (d := d) hRR HCR.out rfl hB hwc hgw
    have hwc2 := hwc.setCell (p := ⟨gA, d * 53 + 51, Option.none⟩) hgw (.slice Option.none 0 0)
    have hneg : gA ≠ g := fun e => hne6 (by simp [Value.ownBlock, e])
    obtain ⟨hltx, e0, e1, e2, e3, e4, e5⟩ := CBx
    have uu0 : wc.cell? ⟨w4.heap.size, 0, Option.none⟩ = some (.int .i64 (d : Int)) := (hbx6.cell (p := ⟨w4.heap.size, 0, Option.none⟩) hs5).trans u0
    have hml := muted_len rs d
    have one := H.out.one
    have hcf : Conf (wc.setCell ⟨gA, d * 53 + 51, Option.none⟩ (.slice Option.none 0 0)) (wc.setCell ⟨gA, d * 53 + 51, Option.none⟩ (.slice Option.none 0 0)).heap.size a0 a1 a2 a3 a4 (some ⟨gA, 0, Option.none⟩) c6 (muted rs d) := ⟨one, by rw [hml]; exact ⟨hn6, hm6⟩, by rw [hml]; exact hRM⟩
    have HCF := Lib.hid hcf
    have HSM := Lib.hid (muted_small HS.out d)
    have d0 : (0 : Int) ≤ (d : Int) := by omega
    have d1 : (d : Int) < (rs.length : Int) := by omega
    clear hRR hatq hRM hcf one hvA hown6 q0 q1 q2 q3 q4 q5 hz
    go_wp2_with fail
    have CB2 : CB (wc.setCell ⟨gA, d * 53 + 51, Option.none⟩ (.slice Option.none 0 0)) g a0 a1 a2 a3 a4 (.slice (some ⟨gA, 0, Option.none⟩) rs.length c6) := ⟨by simpa using hltx, by go_simp, by go_simp, by go_simp, by go_simp, by go_simp, by go_simp⟩
    have hl := HL.out
    rw [hml] at hl
    have C := check_any a0 a1 a2 a3 a4 (some ⟨gA, 0, Option.none⟩) c6 _ (muted rs d) _ (Nat.le_refl _) HCF.out HSM.out
    rw [hml] at C
    clear e0 e1 e2 e3 e4 e5 uu0 hc51 hf51
    generalize wc.setCell ⟨gA, d * 53 + 51, Option.none⟩ (.slice Option.none 0 0) = W7 at *
    have hs7 := hwc2.size
    have hl7 := CB2.lt
    generalize checkUpto (muted rs d) rs.length = p7 at *
    obtain ⟨hl1, hl2, hl3⟩ := hl
    obtain ⟨p71, p72⟩ := p7
    simp only at hl1 hl2
    subst hl1
    refine C.mono ?_
    rintro e w8 ⟨rfl, hb8⟩
    clear C
    have hw8 := hwc2.trans (hb8.mono hs7)
    obtain ⟨-, e0, e1, e2, e3, e4, e5⟩ := CB2.below hb8 hl7
    have C := Find_any a0 a1 a2 a3 a4 (some ⟨gA, 0, Option.none⟩) c6 _ (muted rs d) (i : Int) (k : Int) w8 hb8.size (HCF.out.mono (Nat.le_refl _) hb8) HSM.out
    rw [hml] at C
    generalize FindP (muted rs d) (i : Int) (k : Int) = f8 at *
    obtain ⟨f81, f82, f83, f84⟩ := f8
    simp only at hl3
    subst hl3
    have HC := Lib.hid C
    have hs8 := hw8.size
    clear C hb8
    go_wp2_with fail
    refine HC.out.mono ?_
    rintro e w9 ⟨rfl, hb9⟩
    have hw9 := hw8.trans (hb9.mono hs8)
    have hs9 := hw9.size
    have t1 : decide (p71 ≤ (i : Int)) = true := by simpa using hl2
    clear e0 e1 e2 e3 e4 e5 HC hb9
    dsimp only
    go_wp2
    go_ret
    exact ⟨rfl, hw9.alloc hs9 _⟩
end Go.Proofs.YtfncnhgopbmabaaDoor
