/-
  The levels not and relation.
-/
import Derived.Test.YtmbmngnnfkdngaaGreatDoorLev
namespace Go.Proofs.YtmbmngnnfkdngaaGreatDoor
open Go.RowKit

attribute [local go_sem] fieldTok1
theorem rw_one {w : World} {S : Nat → Prop} {b : Nat} {x0 x1 x2 x3 : Value} {t : TypeId} {x : Ex} (h : w.heap[b]? = some (.cells #[x0, x1, x2, x3] t (0, 0))) (hx : ExV w S [x0, x1, x2, x3] x) (hS : S b) :
    Rw ExV 4 w S (some ⟨b, 0, Option.none⟩) 1 [x] := by
  refine ⟨rfl, fun _ => ⟨b, 0, rfl, hS, fun k z hz => ?_⟩⟩
  match k, hz with
  | 0, hz =>
    cases hz
    refine ⟨_, rfl, hx, range_of_heap h fun j v hv => ?_⟩
    match j, hv with
    | 0, hv | 1, hv | 2, hv | 3, hv => exact hv
/-- One operand, laid in a new block, then returned. -/
theorem ret_one {pb : Nat} {A : Option Addr} {c : Nat} {L : List Tok} {w w1 : World} {op n : Int} {nm : List UInt8} {A' : Option Addr} {c' : Nat} {ks : List Ex} {j : Nat} {la : Int} {S : Nat → Prop} (opn : Int) (hop : (Lit.int .i64 opn).wf = true)
    (h1 : ks.length ≤ c') (h2 : c' ≤ maxLen) (h3 : ExP op n nm) (hr : Rw ExV 4 w1 S A' ks.length ks) (hS : ∀ b, S b → w.heap.size < b ∧ b < w1.heap.size) (hl : Left pb A c L j la w w1) (hj : j < L.length) (hp : pb < w.heap.size) (hw : w.heap.size < w1.heap.size) :
    RetEx pb A c L (.mk opn 0 [] [.mk op n nm ks]) j la w (.returned (exV opn 0 [] (some ⟨w1.heap.size, 0, Option.none⟩) 1 1))
      ((set4 w1 w.heap.size (.int .i64 opn) (.int .i64 0) (.string ⟨#[]⟩) (.slice (some ⟨w1.heap.size, 0, Option.none⟩) 1 1)).alloc (.cells #[.int .i64 op, .int .i64 n, .string ⟨nm.toArray⟩, .slice A' ks.length c'] 25)) := by
  have g := set4_grown w1 w.heap.size (.int .i64 opn) (.int .i64 0) (.string ⟨#[]⟩) (.slice (some ⟨w1.heap.size, 0, Option.none⟩) 1 1)
  have z := set4_size w1 w.heap.size (.int .i64 opn) (.int .i64 0) (.string ⟨#[]⟩) (.slice (some ⟨w1.heap.size, 0, Option.none⟩) 1 1)
  refine ⟨opn, 0, [], some ⟨w1.heap.size, 0, Option.none⟩, 1, [.mk op n nm ks], rfl, rfl, Nat.le_refl _, by unfold maxLen; decide, ⟨hop, by decide, by simp⟩, ?_, (hl.put (Nat.le_refl _) (by omega) _ _ _ _).alloc _, hj⟩
  generalize set4 w1 w.heap.size (.int .i64 opn) (.int .i64 0) (.string ⟨#[]⟩) (.slice (some ⟨w1.heap.size, 0, Option.none⟩) 1 1) = V at *
  have hh := heap_alloc_new V (.cells #[.int .i64 op, .int .i64 n, .string ⟨nm.toArray⟩, .slice A' ks.length c'] 25)
  rw [z] at hh
  refine rw_one hh (ExV.mk h1 h2 h3 ?_) ⟨by omega, by simp; omega⟩
  refine hr.mono ExV.mono (fun b hb => ?_) ((keepOn_grown g fun b hb => ⟨(hS b hb).2, fun q => by have := (hS b hb).1; injection q; omega⟩).trans (keepOn_below (box_below V _) fun b hb => by have := hS b hb; omega))
  have := hS b hb
  refine ⟨by omega, ?_⟩
  simp only [World.size_alloc]
  omega
/-- Two operands, laid in a new block behind the second one's variable, then returned. -/
theorem ret_two {pb : Nat} {A : Option Addr} {c : Nat} {L : List Tok} {w w1 : World} {op n : Int} {nm : List UInt8} {A' : Option Addr} {c' : Nat} {ks : List Ex} {op2 n2 : Int} {nm2 : List UInt8} {A2 : Option Addr} {c2 : Nat} {ks2 : List Ex} {j : Nat} {la : Int} {S : Nat → Prop} (opn : Int) (hop : (Lit.int .i64 opn).wf = true)
    (h1 : ks.length ≤ c') (h2 : c' ≤ maxLen) (h3 : ExP op n nm) (hr : Rw ExV 4 w1 S A' ks.length ks) (k1 : ks2.length ≤ c2) (k2 : c2 ≤ maxLen) (k3 : ExP op2 n2 nm2) (kr : Rw ExV 4 w1 S A2 ks2.length ks2)
    (hS : ∀ b, S b → w.heap.size < b ∧ b < w1.heap.size) (hl : Left pb A c L j la w w1) (hj : j < L.length) (hp : pb < w.heap.size) (hw : w.heap.size < w1.heap.size) (o : Obj) :
    RetEx pb A c L (.mk opn 0 [] [.mk op n nm ks, .mk op2 n2 nm2 ks2]) j la w (.returned (exV opn 0 [] (some ⟨w1.heap.size + 1, 0, Option.none⟩) 2 2))
      (((set4 w1 w.heap.size (.int .i64 opn) (.int .i64 0) (.string ⟨#[]⟩) (.slice (some ⟨w1.heap.size + 1, 0, Option.none⟩) 2 2)).alloc o).alloc (.cells #[.int .i64 op, .int .i64 n, .string ⟨nm.toArray⟩, .slice A' ks.length c', .int .i64 op2, .int .i64 n2, .string ⟨nm2.toArray⟩, .slice A2 ks2.length c2] 25)) := by
  have g := set4_grown w1 w.heap.size (.int .i64 opn) (.int .i64 0) (.string ⟨#[]⟩) (.slice (some ⟨w1.heap.size + 1, 0, Option.none⟩) 2 2)
  have z := set4_size w1 w.heap.size (.int .i64 opn) (.int .i64 0) (.string ⟨#[]⟩) (.slice (some ⟨w1.heap.size + 1, 0, Option.none⟩) 2 2)
  refine ⟨opn, 0, [], some ⟨w1.heap.size + 1, 0, Option.none⟩, 2, [.mk op n nm ks, .mk op2 n2 nm2 ks2], rfl, rfl, Nat.le_refl _, by unfold maxLen; decide, ⟨hop, by decide, by simp⟩, ?_, ((hl.put (Nat.le_refl _) (by omega) _ _ _ _).alloc _).alloc _, hj⟩
  generalize set4 w1 w.heap.size (.int .i64 opn) (.int .i64 0) (.string ⟨#[]⟩) (.slice (some ⟨w1.heap.size + 1, 0, Option.none⟩) 2 2) = V at *
  have hh := heap_alloc_new (V.alloc o) (.cells #[.int .i64 op, .int .i64 n, .string ⟨nm.toArray⟩, .slice A' ks.length c', .int .i64 op2, .int .i64 n2, .string ⟨nm2.toArray⟩, .slice A2 ks2.length c2] 25)
  rw [World.size_alloc, z] at hh
  have kW : ∀ o2, KeepOn S w1 ((V.alloc o).alloc o2) := fun o2 => ((keepOn_grown g fun b hb => ⟨(hS b hb).2, fun q => by have := (hS b hb).1; injection q; omega⟩).trans (keepOn_below (box_below V _) fun b hb => by have := hS b hb; omega)).trans (keepOn_below (box_below (V.alloc o) o2) fun b hb => by have := hS b hb; simp; omega)
  have sW : ∀ o2 b, S b → New w ((V.alloc o).alloc o2) b := fun o2 b hb => by
    have := hS b hb
    refine ⟨by omega, ?_⟩
    simp only [World.size_alloc]
    omega
  exact rw_two hh (ExV.mk h1 h2 h3 (hr.mono ExV.mono (sW _) (kW _))) (ExV.mk k1 k2 k3 (kr.mono ExV.mono (sW _) (kW _))) ⟨by omega, by simp; omega⟩
/-- A part's outcome seen from an elder world. -/
theorem Res.go_some {α β : Type} {r : Res α} {f : α → Nat → Int → Res β} {v : Except (Int × Int) (β × Nat × Int)} (h : r.go f = some v) : (∃ a er, r = some (.error (a, er)) ∧ v = .error (a, er)) ∨ (∃ x i la, r = some (.ok (x, i, la)) ∧ f x i la = some v) := by
  unfold Res.go at h
  split at h
  · cases h
  · rename_i e; obtain ⟨a, er⟩ := e; cases h; exact .inl ⟨a, er, rfl, rfl⟩
  · rename_i x i la; exact .inr ⟨x, i, la, rfl, h⟩

set_option maxRecDepth 100000 in
set_option maxHeartbeats 4000000 in
theorem not_part {pb : Nat} {A : Option Addr} {c : Nat} {L : List Tok} {f : Nat} (hN : Part pb A c L 76 (pLev L f .neg)) (hR : Part pb A c L 89 (pLev L f .rel)) :
    Part pb A c L 76 (pLev L (f + 1) .neg) := by
  intro i late w r hs hr
  unfold pLev at hr
  have hb1 := box_below w (Obj.cells #[.int .i64 0, .int .i64 0, .string ⟨#[]⟩, .slice Option.none 0 0] 25)
  have hZ := ZB.new w
  have hpl := hs.ltp
  have hps := hs.below hb1
  have C1 := peek_any hps
  have C2 := fun W hb => take_any (hps.below (w' := W) hb)
  have hlt := hs.take_lt
  unfold RetTok at C1
  unfold RetTake at C2
  unfold isT at hr
  have HN := Lib.hid hN
  have HR := Lib.hid hR
  have HPS := Lib.hid hps
  have HZ := Lib.hid hZ
  clear hN hR hs hps hZ
  generalize tk L i = t at *
  have HC1 := Lib.hid C1
  have HC2 := Lib.hid C2
  clear C1 C2
  cases hq : (t.text == [110, 111, 116]) with
  | false =>
    rw [hq] at hr
    have hr2 : pLev L f .rel i late = some r := hr
    have C := fun W (h : PS pb A c L i late W) => HR.out i late W r h hr2
    have HC := Lib.hid C
    clear C hr hr2
    go_enter Tryz.func76, Tryz.ntmps76
    go_wp2_with fail
    refine HC1.out.mono ?_
    rintro e' w2 ⟨rfl, hb2⟩
    unfold tokV
    have hb := below_two hb1 hb2 hb1.size
    have Z2 := HZ.out.below hb2
    have HP2 := Lib.hid (HPS.out.below hb2)
    have hs2 := hb.size
    go_wp2_with fail
    rcases r with ⟨a, er⟩ | ⟨x, j, la⟩
    · refine (HC.out _ HP2.out).mono ?_
      rintro e' w1 h1
      obtain ⟨rfl, -⟩ := id h1
      exact bodyPost_panic rfl (RetStop.pre hb h1)
    refine (HC.out _ HP2.out).mono ?_
    rintro e' w1 ⟨op, n, nm, A1, c1, ks, rfl, rfl, hc1, hm1, hp1, hr1, hl1, hj⟩
    unfold exV
    have Z1 := Z2.left hl1 (by omega)
    have hsb := hb2.size
    have hl2 := Left.pre hb hl1
    have hsz := hl1.1.size
    obtain ⟨q0, q1, q2, q3, z0, z1, z2, z3⟩ := XV.cells Z1
    have HR1 := Lib.hid hr1
    have HP := Lib.hid (put_cells Z1 op n nm A1 ks.length c1)
    have HL := Lib.hid hl2
    simp only [World.size_alloc] at hsb
    clear hr1 hl1 hl2 Z1 Z2 HC HZ hb hb1 hb2 hq HC1 HC2 HP2
    go_wp2
    change bodyPost _ _ _ _ _ (set4 w1 w.heap.size (.int .i64 op) (.int .i64 n) (.string ⟨nm.toArray⟩) (.slice A1 ks.length c1))
    obtain ⟨r0, r1, r2, r3, -, -, -, -⟩ := HP.out.cells
    refine bodyPost_ret (v := exV op n nm A1 ks.length c1) (by simp [results, Tryz.results76, go_sem, exV, r0, r1, r2, r3]) rfl ?_
    refine RetEx.put hc1 hm1 hp1 HR1.out (fun b hb => ?_) HL.out hj hpl
    have h1 := hb.1
    exact ⟨by omega, hb.2⟩
  | true =>
    rw [hq] at hr
    simp only [if_true] at hr
    go_enter Tryz.func76, Tryz.ntmps76
    have HRR := Lib.hid hr
    clear hr
    go_wp2_with fail
    refine HC1.out.mono ?_
    rintro e' w2 ⟨rfl, hb2⟩
    unfold tokV
    have hb := below_two hb1 hb2 hb1.size
    have Z2 := HZ.out.below hb2
    have hsb := hb2.size
    go_wp2_with fail
    refine (HC2.out _ hb2).mono ?_
    rintro e' w3 ⟨rfl, hl3⟩
    unfold tokV
    have P3 := (HPS.out.below hb2).left hl3 hlt
    have Z3 := Z2.left hl3 (by omega)
    have L3 := Left.pre hb hl3
    have hs3 := hl3.1.size
    simp only [World.size_alloc] at hsb
    have HP3 := Lib.hid P3
    have HL3 := Lib.hid L3
    clear P3 L3 hl3 hb hb1 hb2 Z2 HC1 HC2 HPS HZ
    go_wp2_with fail
    rcases Res.go_some HRR.out with ⟨a, er, h1, rfl⟩ | ⟨x, j, la, h1, h2⟩
    · refine (HN.out _ _ _ _ HP3.out h1).mono ?_
      rintro e' w1 ⟨rfl, hg⟩
      exact bodyPost_panic rfl ⟨rfl, HL3.out.1.trans hg⟩
    obtain rfl : Except.ok (Ex.mk 4 0 [] [x], j, la) = r := by injection h2
    clear h2 HRR
    refine (HN.out _ _ _ _ HP3.out h1).mono ?_
    rintro e' w1 ⟨op, n, nm, A1, c1, ks, rfl, rfl, hc1, hm1, hp1, hr1, hl1, hj⟩
    unfold exV
    have Z1 := Z3.left hl1 (by omega)
    obtain ⟨q0, q1, q2, q3, z0, z1, z2, z3⟩ := XV.cells Z1
    have hsz := hl1.1.size
    have HR1 := Lib.hid hr1
    have HZ1 := Lib.hid Z1
    have HL := Lib.hid (HL3.out.trans hl1)
    have hzl := XV.lt Z1
    clear hr1 hl1 Z1 Z3 h1 hq HP3
    have HPT := Lib.hid (put_cells HZ1.out 4 0 [] (some ⟨w1.heap.size, 0, Option.none⟩) 1 1)
    go_wp2
    have hE := ret_one 4 (by decide) hc1 hm1 hp1 HR1.out (fun b hb => by have := hb.1; exact ⟨by omega, hb.2⟩) HL.out hj hpl hzl
    obtain ⟨r0, r1, r2, r3, -, -, -, -⟩ := HPT.out.cells
    have hsz4 := set4_size w1 w.heap.size (.int .i64 4) (.int .i64 0) (.string ⟨#[]⟩) (.slice (some ⟨w1.heap.size, 0, Option.none⟩) 1 1)
    change bodyPost _ _ _ _ _ ((set4 w1 w.heap.size (.int .i64 4) (.int .i64 0) (.string ⟨#[]⟩) (.slice (some ⟨w1.heap.size, 0, Option.none⟩) 1 1)).alloc _)
    have hlt4 : w.heap.size < (set4 w1 w.heap.size (.int .i64 4) (.int .i64 0) (.string ⟨#[]⟩) (.slice (some ⟨w1.heap.size, 0, Option.none⟩) 1 1)).heap.size := by omega
    refine bodyPost_ret (v := exV 4 0 [] (some ⟨w1.heap.size, 0, Option.none⟩) 1 1) ?_ rfl hE
    generalize set4 w1 w.heap.size (.int .i64 4) (.int .i64 0) (.string ⟨#[]⟩) (.slice (some ⟨w1.heap.size, 0, Option.none⟩) 1 1) = V at *
    simp [results, Tryz.results76, go_sem, exV, r0, r1, r2, r3, hlt4]
end Go.Proofs.YtmbmngnnfkdngaaGreatDoor
