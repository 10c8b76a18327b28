/-
  The reference's Find over any configuration.
-/
import Derived.Test.YtfncnhgopbmabaaDoorFindB
namespace Go.Proofs.YtfncnhgopbmabaaDoor
open Go.RowKit

attribute [local go_sem ↓] loadRelay_fold storeRelay_fold
attribute [local go_sem] loadRelay_row storeRelay_new

/-- The boxes that the reference's Find has laid from block g on: the configuration, the result, the subscription. -/
structure SB (W : World) (g : Nat) (v : Value) (x : SubM) : Prop where
  lt : g + 1 + 1 < W.heap.size
  c5 : W.cell? ⟨g, 5, Option.none⟩ = some v
  s2 : W.cell? ⟨g + 1 + 1, 2, Option.none⟩ = some (.string x.set)
  s3 : W.cell? ⟨g + 1 + 1, 3, Option.none⟩ = some (.string x.signal)
  rb : RB W (g + 1)
theorem SB.below {W W' : World} {g : Nat} {v : Value} {x : SubM} (h : SB W g v x) (hb : Below W.heap.size W W') : SB W' g v x := by
  have h1 := h.lt
  have h2 := hb.size
  exact ⟨by omega, (hb.cell (p := ⟨g, 5, Option.none⟩) (by show g < _; omega)).trans h.c5, (hb.cell (p := ⟨g + 1 + 1, 2, Option.none⟩) (by show g + 1 + 1 < _; omega)).trans h.s2,
    (hb.cell (p := ⟨g + 1 + 1, 3, Option.none⟩) (by show g + 1 + 1 < _; omega)).trans h.s3, h.rb.below hb (by omega)⟩

set_option maxRecDepth 100000 in
set_option maxHeartbeats 8000000 in
theorem rFind_any (a0 a1 a2 a3 a4 : Value) (A : Option Addr) (c B : Nat) (rs : List RelayM) (relay sub : Int) (w : World) (hB : B ≤ w.heap.size) (h : Conf w B a0 a1 a2 a3 a4 A c rs) (hn : SmallAll rs) :
    Calls Tryd.prog 20 #[.agg #[a0, a1, a2, a3, a4, .slice A rs.length c], .int .i64 relay, .int .i64 sub] w (RetPlace (FindP rs relay sub) w) := by
  have hbA := box_below w (Obj.cells #[a0, a1, a2, a3, a4, .slice A rs.length c] 49)
  have hbB := hbA.alloc (by simp) (Obj.cells #[.int .i64 0, .int .i64 0, .int .i64 0] 56)
  have H := Lib.hid h
  have hr := h.rows
  clear h
  by_cases h0 : relay < 0
  · have e0 : FindP rs relay sub = (0, 0, 0, 1) := by simp [FindP, h0]
    have HE := Lib.hid e0
    clear e0 hr
    go_enter Tryd.func20, Tryd.ntmps20
    go_wp2
    refine bodyPost_ret (v := .tuple #[.agg #[.int .i64 0, .int .i64 0, .int .i64 0], .int .i64 1]) (by simp [results, Tryd.results20, go_sem]) rfl ⟨by rw [HE.out], ?_⟩
    exact hbB
  obtain ⟨k, rfl⟩ := Int.eq_ofNat_of_zero_le (by omega : 0 ≤ relay)
  by_cases hk : k < rs.length
  case neg =>
    have e0 : FindP rs (k : Int) sub = (0, 0, 0, 1) := by simp [FindP, List.getElem?_eq_none (Nat.le_of_not_lt hk)]
    have HE := Lib.hid e0
    have hk' : (rs.length : Int) ≤ (k : Int) := by omega
    clear e0 hr
    go_enter Tryd.func20, Tryd.ntmps20
    go_wp2
    refine bodyPost_ret (v := .tuple #[.agg #[.int .i64 0, .int .i64 0, .int .i64 0], .int .i64 1]) (by simp [results, Tryd.results20, go_sem]) rfl ⟨by rw [HE.out], ?_⟩
    exact hbB
  obtain ⟨b, o, cs, r, rfl, hbB', hx, hR, hbx, hrow, hat⟩ := relayAt hr hk
  have hb' : b < w.heap.size := by omega
  obtain ⟨c52, h52, A2, k2, e2, l2, m2, R2⟩ := hR.subs
  cases e2
  have q52 : w.cell? ⟨b, o + k * 53 + 52, Option.none⟩ = some (.slice A2 r.subs.length k2) := hat 52 _ h52
  by_cases h1 : sub < 0
  · have e0 : FindP rs (k : Int) sub = (0, 0, 0, 1) := by simp [FindP, hx, h1]
    have HE := Lib.hid e0
    clear e0 hr hx hat hrow hR
    go_enter Tryd.func20, Tryd.ntmps20
    go_wp2
    refine bodyPost_ret (v := .tuple #[.agg #[.int .i64 0, .int .i64 0, .int .i64 0], .int .i64 1]) (by simp [results, Tryd.results20, go_sem]) rfl ⟨by rw [HE.out], ?_⟩
    exact hbB
  obtain ⟨m, rfl⟩ := Int.eq_ofNat_of_zero_le (by omega : 0 ≤ sub)
  by_cases hm : m < r.subs.length
  case neg =>
    have e0 : FindP rs (k : Int) (m : Int) = (0, 0, 0, 1) := by simp [FindP, hx, List.getElem?_eq_none (Nat.le_of_not_lt hm)]
    have HE := Lib.hid e0
    have hm' : (r.subs.length : Int) ≤ (m : Int) := by omega
    clear e0 hr hx hat hrow hR
    go_enter Tryd.func20, Tryd.ntmps20
    go_wp2
    refine bodyPost_ret (v := .tuple #[.agg #[.int .i64 0, .int .i64 0, .int .i64 0], .int .i64 1]) (by simp [results, Tryd.results20, go_sem]) rfl ⟨by rw [HE.out], ?_⟩
    exact hbB
  obtain ⟨b2, o2, ds, x, rfl, hbb, hsx, -, ⟨rfl, -⟩, hat2⟩ := R2.at_ hm
  have q0 : w.cell? ⟨b2, o2 + m * 4, Option.none⟩ = some (.string x.loc) := hat2 0 _ rfl
  have q1 : w.cell? ⟨b2, o2 + m * 4 + 1, Option.none⟩ = some (.string x.device) := hat2 1 _ rfl
  have q2 : w.cell? ⟨b2, o2 + m * 4 + 2, Option.none⟩ = some (.string x.set) := hat2 2 _ rfl
  have q3 : w.cell? ⟨b2, o2 + m * 4 + 3, Option.none⟩ = some (.string x.signal) := hat2 3 _ rfl
  have hb2' : b2 < w.heap.size := by omega
  have e0 : FindP rs (k : Int) (m : Int) = findP rs (k : Int) (idx (fun r => same r.name x.device) rs) x := by simp [FindP, hx, hsx, show ¬ ((m : Int) < 0) by omega, show ¬ ((k : Int) < 0) by omega]
  have HE := Lib.hid e0
  have hbC := hbB.alloc (by simp; omega) (Obj.cells #[.string x.loc, .string x.device, .string x.set, .string x.signal] 70)
  clear e0 hx hat hrow hR hsx hat2 R2 hbx h52
  go_enter Tryd.func20, Tryd.ntmps20
  go_wp2_with fail
  have hn20 := hn.1
  have S1 : SB (((w.alloc (Obj.cells #[a0, a1, a2, a3, a4, .slice (some ⟨b, o, Option.none⟩) rs.length c] 49)).alloc (Obj.cells #[.int .i64 0, .int .i64 0, .int .i64 0] 56)).alloc (Obj.cells #[.string x.loc, .string x.device, .string x.set, .string x.signal] 70)) w.heap.size (.slice (some ⟨b, o, Option.none⟩) rs.length c) x := ⟨by simp, by go_simp, by go_simp, by go_simp, ⟨by simp, by go_simp, by go_simp, by go_simp, by go_simp, by go_simp, by go_simp⟩⟩
  refine (rrelay_any a0 a1 a2 a3 a4 (some ⟨b, o, Option.none⟩) c B rs x.device _ (by simp; omega) (H.out.mono (Nat.le_refl _) (hbC.mono hB)) (by omega)).mono ?_
  rintro e w2 ⟨rfl, hb2⟩
  have S2 := S1.below hb2
  have hW2 := hbC.trans (hb2.mono (by simp; omega))
  have hs2 := hW2.size
  have hlt := idx_lt (fun r : RelayM => same r.name x.device) rs
  generalize idx (fun r : RelayM => same r.name x.device) rs = dv at *
  have hr2 := hr.mono RelayC.mono (Nat.le_refl _) (hW2.mono hB)
  clear hr q52 q0 q1 q2 q3 hb2 S1 hbA hbB hbC
  by_cases hd0 : dv < 0
  · obtain ⟨-, -, -, -, -, r0, r1, r2, z0, z1, z2⟩ := S2
    have e0 : findP rs (k : Int) dv x = (0, 0, 0, 9) := by simp [findP, hd0]
    have HE2 := Lib.hid e0
    clear e0
    go_wp2
    refine bodyPost_ret (v := .tuple #[.agg #[.int .i64 0, .int .i64 0, .int .i64 0], .int .i64 9]) (by simp [results, Tryd.results20, go_sem, r0, r1, r2]) rfl ⟨by rw [HE.out, HE2.out], ?_⟩
    exact below_set3 hW2 _ (by omega) _ _ _
  by_cases hdk : dv = (k : Int)
  · obtain ⟨-, -, -, -, -, r0, r1, r2, z0, z1, z2⟩ := S2
    have e0 : findP rs (k : Int) dv x = (0, 0, 0, 12) := by simp [findP, hdk]
    have HE2 := Lib.hid e0
    subst hdk
    clear e0
    go_wp2
    refine bodyPost_ret (v := .tuple #[.agg #[.int .i64 0, .int .i64 0, .int .i64 0], .int .i64 12]) (by simp [results, Tryd.results20, go_sem, r0, r1, r2]) rfl ⟨by rw [HE.out, HE2.out], ?_⟩
    exact below_set3 hW2 _ (by omega) _ _ _
  obtain ⟨d, rfl⟩ := Int.eq_ofNat_of_zero_le (by omega : 0 ≤ dv)
  have hdl : d < rs.length := by omega
  obtain ⟨b', o', ds', rd, hA, hbd, hxd, hRd, hbxd, hrowd, hatd⟩ := relayAt hr2 hdl
  cases hA
  have bd : ((d : Int) == (k : Int)) = false := by simpa using hdk
  have hsm : rd.Small := hn.2 rd (List.mem_of_getElem? hxd)
  have hsl := hsm.sets
  have hpl := hsm.pubs
  have hd1 : (0 : Int) ≤ (d : Int) := by omega
  have hd2 : (d : Int) < (rs.length : Int) := by omega
  have HR := Lib.hid hRd
  have HXD := Lib.hid hxd
  obtain ⟨c50, h50, A3, k3, e3, l3, m3, R3⟩ := hRd.sets
  cases e3
  have C1 := fun W' (hb : Below w2.heap.size w2 W') => rset_any ds' rd B x.set W' (by have := hb.size; omega) (RelayC.mono _ _ _ _ _ _ (Nat.le_refl _) (hb.mono (by omega)) hRd) (by omega)
  have HC1 := Lib.hid C1
  have hc5 := S2.c5
  have hss2 := S2.s2
  have hBw : B ≤ w2.heap.size := by omega
  clear hxd hRd hr2 hd0 C1
  go_wp2
  go_region_held3 (fun w' => w'.cell? ⟨w.heap.size, 5, Option.none⟩ = some (.slice (some ⟨b, o, Option.none⟩) rs.length c) ∧ rowAt w' b (o + d * 53) 53 = some ds' ∧ w'.cell? ⟨w.heap.size + 1 + 1, 2, Option.none⟩ = some (.string x.set)) (go_keep)
    (first
     | ((go_at_call 36; refine (HC1.out _ (below_drewN (Below.refl _ _) 1)).mono ?_; rintro e w3 ⟨rfl, hb3⟩; have hb3' := below_same (a := w2) (B' := w2.heap.size) hb3 rfl rfl rfl rfl (Nat.le_refl _); have S3 := S2.below hb3'; have p1 := S3.c5; have p2 := S3.s2; have p3 := rowAt_below hrowd hb3' (Nat.lt_of_lt_of_le hbd hBw))))
  have hW3 := hW2.trans (hb3'.mono hs2)
  have hs3 := hW3.size
  clear hb3 HC1
  rcases idx_cases (fun d : ByteArray × List ByteArray => same d.1 x.set) rd.sets with ⟨hi, -⟩ | ⟨si, sd, hi, hsd, -, -⟩
  · obtain ⟨-, -, -, -, -, r0, r1, r2, z0, z1, z2⟩ := S3
    have e0 : findP rs (k : Int) (d : Int) x = (0, 0, 0, 9) := by simp [findP, HXD.out, hi, hdk]
    have HE2 := Lib.hid e0
    rw [hi]
    clear e0 hi HXD
    go_wp2
    refine bodyPost_ret (v := .tuple #[.agg #[.int .i64 0, .int .i64 0, .int .i64 0], .int .i64 9]) (by simp [results, Tryd.results20, go_sem, r0, r1, r2]) rfl ⟨by rw [HE.out, HE2.out], ?_⟩
    exact below_set3 hW3 _ (by omega) _ _ _
  · have hsi : si < rd.sets.length := (List.getElem?_eq_some_iff.1 hsd).1
    rw [hi]
    have HI := Lib.hid hi
    have HD := Lib.hid hsd
    have hi0 : (0 : Int) ≤ (si : Int) := by omega
    have hi1 : (si : Int) < (rd.sets.length : Int) := by omega
    have C2 := fun W' (hb : Below w3.heap.size w3 W') => rpublished_any ds' rd B x.set W' (by have := hb.size; omega) (RelayC.mono _ _ _ _ _ _ (Nat.le_refl _) ((hb3'.mono hBw).trans (hb.mono (by omega))) HR.out) (by omega)
    have HC2 := Lib.hid C2
    have hbw3 : b < w3.heap.size := by omega
    clear hi hc5 hss2 C2
    go_wp2
    go_region_held3 (fun w' => w'.cell? ⟨w.heap.size, 5, Option.none⟩ = some (.slice (some ⟨b, o, Option.none⟩) rs.length c) ∧ rowAt w' b (o + d * 53) 53 = some ds' ∧ w'.cell? ⟨w.heap.size + 1 + 1, 2, Option.none⟩ = some (.string x.set)) (go_keep)
      (first
       | ((go_at_call 37; refine (HC2.out _ (below_drewN (Below.refl _ _) 1)).mono ?_; rintro e w4 ⟨rfl, hb4⟩; have hb4' := below_same (a := w3) (B' := w3.heap.size) hb4 rfl rfl rfl rfl (Nat.le_refl _); have S4 := S3.below hb4'; have t1 := S4.c5; have t2 := S4.s2; have t3 := rowAt_below p3 hb4' hbw3)))
    have hW4 := hW3.trans (hb4'.mono hs3)
    have hs4 := hW4.size
    have hw24 := (hb3'.mono hBw).trans (hb4'.mono (by omega))
    clear hb4 HC2
    cases hh : has (fun r => same r x.set) rd.pubs with
    | false =>
      obtain ⟨-, -, -, -, -, r0, r1, r2, z0, z1, z2⟩ := S4
      have e0 : findP rs (k : Int) (d : Int) x = (0, 0, 0, 11) := by simp [findP, HXD.out, HI.out, hdk, hh, show ¬ ((si : Int) < 0) by omega, show ¬ ((d : Int) < 0) by omega]
      have HE2 := Lib.hid e0
      clear e0 hh HXD HI HD hsd
      go_wp2
      refine bodyPost_ret (v := .tuple #[.agg #[.int .i64 0, .int .i64 0, .int .i64 0], .int .i64 11]) (by simp [results, Tryd.results20, go_sem, r0, r1, r2]) rfl ⟨by rw [HE.out, HE2.out], ?_⟩
      exact below_set3 hW4 _ (by omega) _ _ _
    | true =>
      obtain ⟨b4, o4, ds4, sd', rfl, hbb4, hsd', -, ⟨c5, rfl, -, A5, k5, e5, l5, m5, R5⟩, hat4⟩ := (R3.mono SetC.mono (Nat.le_refl _) hw24).at_ hsi
      obtain rfl : sd' = sd := by rw [hsd'] at hsd; exact Option.some.inj hsd
      cases e5
      have hc1 := hat4 1 _ rfl
      have hcs : w4.cell? ⟨b, o + d * 53 + 50, Option.none⟩ = some (.slice (some ⟨b4, o4, Option.none⟩) rd.sets.length k3) := (of_rowAt t3).2 50 _ h50
      have hm5 : sd'.2.length ≤ 9223372036854775807 := by unfold maxLen at m5; omega
      have HH := Lib.hid hh
      have hs3' := S4.s3
      clear hsd hsd' hat4 hh R3 h50 HR p1 p2 p3 t3 t2 S2 hrowd hatd
      go_wp2
      go_quiet ((go_at_call 25; exact quiet_same (rindex_any A5 k5 B sd'.2 x.signal _ R5 hm5)))
      obtain ⟨-, -, -, -, -, r0, r1, r2, z0, z1, z2⟩ := S4
      rcases idx_cases (fun s : ByteArray => same s x.signal) sd'.2 with ⟨hj, -⟩ | ⟨j, sg, hj, hsg, -, -⟩
      · have e0 : findP rs (k : Int) (d : Int) x = (0, 0, 0, 9) := by simp [findP, HXD.out, HI.out, hdk, HH.out, HD.out, hj, show ¬ ((si : Int) < 0) by omega, show ¬ ((d : Int) < 0) by omega]
        have HE2 := Lib.hid e0
        rw [hj]
        clear e0 hj HXD HI HD HH
        go_wp2
        refine bodyPost_ret (v := .tuple #[.agg #[.int .i64 0, .int .i64 0, .int .i64 0], .int .i64 9]) (by simp [results, Tryd.results20, go_sem, r0, r1, r2]) rfl ⟨by rw [HE.out, HE2.out], ?_⟩
        exact below_set3 (below_drewN hW4 _) _ (by omega) _ _ _
      · have e0 : findP rs (k : Int) (d : Int) x = ((d : Int), (si : Int), (j : Int), 0) := by simp [findP, HXD.out, HI.out, hdk, HH.out, HD.out, hj, show ¬ ((si : Int) < 0) by omega, show ¬ ((d : Int) < 0) by omega, show ¬ ((j : Int) < 0) by omega]
        have HE2 := Lib.hid e0
        rw [hj]
        clear e0 hj HXD HI HD HH
        go_wp2
        refine bodyPost_ret (v := .tuple #[.agg #[.int .i64 d, .int .i64 si, .int .i64 j], .int .i64 0]) (by simp [results, Tryd.results20, go_sem, r0, r1, r2]) rfl ⟨by rw [HE.out, HE2.out], ?_⟩
        exact below_set3 (below_drewN hW4 _) _ (by omega) _ _ _
end Go.Proofs.YtfncnhgopbmabaaDoor
