/-
  Find of the program and of the reference, over any configuration; the law SignalsFinds.
-/
import Derived.Test.YtfncnhgopbmabaaDoorFind
namespace Go.Proofs.YtfncnhgopbmabaaDoor
open Go.RowKit

attribute [local go_sem ↓] loadRelay_fold storeRelay_fold
attribute [local go_sem] loadRelay_row storeRelay_new

/-- What a subscription of a configuration denotes. -/
def FindP (rs : List RelayM) (relay sub : Int) : Int × Int × Int × Int :=
  if relay < 0 then (0, 0, 0, 1) else
  match rs[relay.toNat]? with
  | Option.none => (0, 0, 0, 1)
  | some r => if sub < 0 then (0, 0, 0, 1) else
    match r.subs[sub.toNat]? with
    | Option.none => (0, 0, 0, 1)
    | some x => findP rs relay (idx (fun r => same r.name x.device) rs) x

/-- A result of three ints in block g that may be written. -/
structure RB (W : World) (g : Nat) : Prop where
  lt : g < W.heap.size
  r0 : W.cell? ⟨g, 0, Option.none⟩ = some (.int .i64 0)
  r1 : W.cell? ⟨g, 1, Option.none⟩ = some (.int .i64 0)
  r2 : W.cell? ⟨g, 2, Option.none⟩ = some (.int .i64 0)
  z0 : W.frozen? ⟨g, 0, Option.none⟩ = false
  z1 : W.frozen? ⟨g, 1, Option.none⟩ = false
  z2 : W.frozen? ⟨g, 2, Option.none⟩ = false
theorem RB.below {W W' : World} {g B : Nat} (h : RB W g) (hb : Below B W W') (hg : g < B) : RB W' g :=
  ⟨Nat.lt_of_lt_of_le h.lt hb.size, (hb.cell (p := ⟨g, 0, Option.none⟩) hg).trans h.r0, (hb.cell (p := ⟨g, 1, Option.none⟩) hg).trans h.r1, (hb.cell (p := ⟨g, 2, Option.none⟩) hg).trans h.r2,
    (hb.frozen (p := ⟨g, 0, Option.none⟩) hg).trans h.z0, (hb.frozen (p := ⟨g, 1, Option.none⟩) hg).trans h.z1, (hb.frozen (p := ⟨g, 2, Option.none⟩) hg).trans h.z2⟩

set_option maxRecDepth 100000 in
set_option maxHeartbeats 4000000 in
theorem Find_any (a0 a1 a2 a3 a4 : Value) (A : Option Addr) (c B : Nat) (rs : List RelayM) (relay sub : Int) (w : World) (hB : B ≤ w.heap.size) (h : Conf w B a0 a1 a2 a3 a4 A c rs) (hn : SmallAll rs) :
    Calls Tryd.prog 19 #[.agg #[a0, a1, a2, a3, a4, .slice A rs.length c], .int .i64 relay, .int .i64 sub] w (RetPlace (FindP rs relay sub) w) := by
  have hbA := box_below w (Obj.cells #[a0, a1, a2, a3, a4, .slice A rs.length c] 49)
  have hbB := hbA.alloc (by simp) (Obj.cells #[.int .i64 0, .int .i64 0, .int .i64 0] 52)
  have H := Lib.hid h
  have hr := h.rows
  clear h
  by_cases h0 : relay < 0
  · have e0 : FindP rs relay sub = (0, 0, 0, 1) := by simp [FindP, h0]
    have HE := Lib.hid e0
    clear e0 hr
    go_enter Tryd.func19, Tryd.ntmps19
    go_wp2
    refine bodyPost_ret (v := .tuple #[.agg #[.int .i64 0, .int .i64 0, .int .i64 0], .int .i64 1]) (by simp [results, Tryd.results19, go_sem]) rfl ⟨by rw [HE.out], ?_⟩
    exact hbB
  obtain ⟨k, rfl⟩ := Int.eq_ofNat_of_zero_le (by omega : 0 ≤ relay)
  by_cases hk : k < rs.length
  case neg =>
    have e0 : FindP rs (k : Int) sub = (0, 0, 0, 1) := by simp [FindP, List.getElem?_eq_none (Nat.le_of_not_lt hk)]
    have HE := Lib.hid e0
    have hk' : (rs.length : Int) ≤ (k : Int) := by omega
    clear e0 hr
    go_enter Tryd.func19, Tryd.ntmps19
    go_wp2
    refine bodyPost_ret (v := .tuple #[.agg #[.int .i64 0, .int .i64 0, .int .i64 0], .int .i64 1]) (by simp [results, Tryd.results19, go_sem]) rfl ⟨by rw [HE.out], ?_⟩
    exact hbB
  obtain ⟨b, o, cs, r, rfl, hbB', hx, hR, hbx, hrow, hat⟩ := relayAt hr hk
  have hb' : b < w.heap.size := by omega
  obtain ⟨c52, h52, A2, k2, e2, l2, m2, R2⟩ := hR.subs
  cases e2
  have q52 : w.cell? ⟨b, o + k * 53 + 52, Option.none⟩ = some (.slice A2 r.subs.length k2) := hat 52 _ h52
  by_cases h1 : sub < 0
  · have e0 : FindP rs (k : Int) sub = (0, 0, 0, 1) := by simp [FindP, hx, h1]
    have HE := Lib.hid e0
    clear e0 hr hx hat hrow hR
    go_enter Tryd.func19, Tryd.ntmps19
    go_wp2
    refine bodyPost_ret (v := .tuple #[.agg #[.int .i64 0, .int .i64 0, .int .i64 0], .int .i64 1]) (by simp [results, Tryd.results19, go_sem]) rfl ⟨by rw [HE.out], ?_⟩
    exact hbB
  obtain ⟨m, rfl⟩ := Int.eq_ofNat_of_zero_le (by omega : 0 ≤ sub)
  by_cases hm : m < r.subs.length
  case neg =>
    have e0 : FindP rs (k : Int) (m : Int) = (0, 0, 0, 1) := by simp [FindP, hx, List.getElem?_eq_none (Nat.le_of_not_lt hm)]
    have HE := Lib.hid e0
    have hm' : (r.subs.length : Int) ≤ (m : Int) := by omega
    clear e0 hr hx hat hrow hR
    go_enter Tryd.func19, Tryd.ntmps19
    go_wp2
    refine bodyPost_ret (v := .tuple #[.agg #[.int .i64 0, .int .i64 0, .int .i64 0], .int .i64 1]) (by simp [results, Tryd.results19, go_sem]) rfl ⟨by rw [HE.out], ?_⟩
    exact hbB
  obtain ⟨b2, o2, ds, x, rfl, hbb, hsx, -, ⟨rfl, -⟩, hat2⟩ := R2.at_ hm
  have q0 : w.cell? ⟨b2, o2 + m * 4, Option.none⟩ = some (.string x.loc) := hat2 0 _ rfl
  have q1 : w.cell? ⟨b2, o2 + m * 4 + 1, Option.none⟩ = some (.string x.device) := hat2 1 _ rfl
  have q2 : w.cell? ⟨b2, o2 + m * 4 + 2, Option.none⟩ = some (.string x.set) := hat2 2 _ rfl
  have q3 : w.cell? ⟨b2, o2 + m * 4 + 3, Option.none⟩ = some (.string x.signal) := hat2 3 _ rfl
  have hb2' : b2 < w.heap.size := by omega
  have e0 : FindP rs (k : Int) (m : Int) = findP rs (k : Int) (idx (fun r => same r.name x.device) rs) x := by simp [FindP, hx, hsx, show ¬ ((m : Int) < 0) by omega, show ¬ ((k : Int) < 0) by omega]
  have HE := Lib.hid e0
  have hbC := hbB.alloc (by simp; omega) (Obj.cells #[.string x.loc, .string x.device, .string x.set, .string x.signal] 70)
  clear e0 hx hat hrow hR hsx hat2 R2
  go_enter Tryd.func19, Tryd.ntmps19
  go_wp2_with fail
  have hn20 := hn.1
  refine (idxRelay_any (some ⟨b, o, Option.none⟩) c B (w.heap.size + 1 + 1) rs x.device _ (by simp; omega) (hr.mono RelayC.mono (Nat.le_refl _) (hbC.mono hB)) (by omega) (by simp) (by go_simp)).mono ?_
  rintro e w2 ⟨rfl, hb2⟩
  have RB1 : RB (((w.alloc (Obj.cells #[a0, a1, a2, a3, a4, .slice (some ⟨b, o, Option.none⟩) rs.length c] 49)).alloc (Obj.cells #[.int .i64 0, .int .i64 0, .int .i64 0] 52)).alloc (Obj.cells #[.string x.loc, .string x.device, .string x.set, .string x.signal] 70)) (w.heap.size + 1) := ⟨by simp, by go_simp, by go_simp, by go_simp, by go_simp, by go_simp, by go_simp⟩
  have RB2 := RB1.below hb2 (by simp)
  have hs2 := hb2.size
  simp only [World.size_alloc] at hs2
  have hW2 := hbC.trans (hb2.mono (by simp; omega))
  obtain ⟨hc2, hf2⟩ := bcell hb2
  simp only [World.size_alloc] at hc2 hf2
  have hH := H.out.mono (Nat.le_refl _) (hW2.mono hB)
  have hlt := (idx_lt (fun r : RelayM => same r.name x.device) rs).2
  generalize idx (fun r : RelayM => same r.name x.device) rs = dv at *
  clear hr q52 q0 q1 q2 q3 hb2
  go_wp2_with fail
  refine (find_any a0 a1 a2 a3 a4 (some ⟨b, o, Option.none⟩) c B rs (k : Int) dv x w2 (by omega) hH hn hlt).mono ?_
  rintro e w3 ⟨rfl, hb3⟩
  obtain ⟨-, r0, r1, r2, z0, z1, z2⟩ := RB2.below hb3 RB2.lt
  have hW3 := hW2.trans (hb3.mono (by omega))
  clear hc2 hf2 RB1 RB2 hb3
  go_wp2
  refine bodyPost_ret (v := .tuple #[.agg #[.int .i64 (findP rs (k : Int) dv x).1, .int .i64 (findP rs (k : Int) dv x).2.1, .int .i64 (findP rs (k : Int) dv x).2.2.1], .int .i64 (findP rs (k : Int) dv x).2.2.2]) (by simp [results, Tryd.results19, go_sem, r0, r1, r2]) rfl ⟨by rw [HE.out], ?_⟩
  exact below_set3 hW3 _ (by omega) _ _ _
end Go.Proofs.YtfncnhgopbmabaaDoor
