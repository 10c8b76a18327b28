/-
  What a subscription denotes: the program's find and Find, the reference's Find, over any configuration.
-/
import Derived.Test.YtfncnhgopbmabaaDoorSeek
namespace Go.Proofs.YtfncnhgopbmabaaDoor
open Go.RowKit

attribute [local go_sem ↓] loadRelay_fold
attribute [local go_sem] loadRelay_row

theorem storeRelay_fold (p v : Value) : Instr.storeAt 34 p v = StoreS 34 p v := rfl
theorem storeRelay_new (w : World) (z : Array Value) (cs : List Value) (g : Nat) (hg : g = w.heap.size) (hz : z.size = 53) (hb : Boxable 53 cs) :
    (StoreS 34 (.pointer (some ⟨g, 0, Option.none⟩)) (.agg cs.toArray)).run Tryd.prog (w.alloc (.cells z 34)) = .ok () (w.alloc (.cells cs.toArray 34)) := storeS_new _ 53 relayInfo w z cs g hg hz hb
attribute [local go_sem ↓] storeRelay_fold
attribute [local go_sem] storeRelay_new

/-- A configuration as it is handed over: five cells of the station, and the relays. -/
structure Conf (w : World) (B : Nat) (a0 a1 a2 a3 a4 : Value) (A : Option Addr) (c : Nat) (rs : List RelayM) : Prop where
  one : a0.oneCell' = true ∧ a1.oneCell' = true ∧ a2.oneCell' = true ∧ a3.oneCell' = true ∧ a4.oneCell' = true
  cap : rs.length ≤ c ∧ c ≤ maxLen
  rows : Rws RelayC 53 w B A rs.length rs
theorem Conf.mono {w w' : World} {B B' : Nat} {a0 a1 a2 a3 a4 : Value} {A : Option Addr} {c : Nat} {rs : List RelayM} (h : Conf w B a0 a1 a2 a3 a4 A c rs) (hB : B ≤ B') (hb : Below B w w') : Conf w' B' a0 a1 a2 a3 a4 A c rs :=
  ⟨h.one, h.cap, h.rows.mono RelayC.mono hB hb⟩

/-- A relay's cells at their place. -/
theorem relayAt {w : World} {B : Nat} {A : Option Addr} {rs : List RelayM} (h : Rws RelayC 53 w B A rs.length rs) {k : Nat} (hk : k < rs.length) :
    ∃ b o cs r, A = some ⟨b, o, Option.none⟩ ∧ b < B ∧ rs[k]? = some r ∧ RelayC w B cs r ∧ Boxable 53 cs ∧ rowAt w b (o + k * 53) 53 = some cs ∧ w.rangeAt b (o + k * 53) cs := by
  obtain ⟨b, o, cs, r, e, hb, hr, hl, hR, hat⟩ := h.at_ hk
  exact ⟨b, o, cs, r, e, hb, hr, hR, ⟨hl, hR.one⟩, rowAt_of hat hl, hat⟩

/-- No relay is large. -/
def SmallAll (rs : List RelayM) : Prop := rs.length ≤ 20 ∧ ∀ r ∈ rs, r.Small

set_option maxRecDepth 100000 in
set_option maxHeartbeats 1000000 in
theorem clarge_any (a0 a1 a2 a3 a4 : Value) (A : Option Addr) (c B : Nat) (rs : List RelayM) (w : World) (hB : B ≤ w.heap.size) (h : Conf w B a0 a1 a2 a3 a4 A c rs) :
    Calls Tryd.prog 18 #[.agg #[a0, a1, a2, a3, a4, .slice A rs.length c]] w (NoSays (SmallAll rs) w) := by
  have T : ∀ w', Below w.heap.size w w' → NoSays (SmallAll rs) w (.returned (.bool true)) w' := fun w' hb => ⟨true, (fun h => absurd h (by decide)), rfl, hb⟩
  have hr := h.rows
  clear h
  by_cases b1 : rs.length ≤ 20
  case neg =>
    have b1 : (20 : Int) < (rs.length : Int) := by omega
    go_enter Tryd.func18, Tryd.ntmps18
    go_wp2
    go_ret
    exact T _ (box_below _ _)
  have hbox := box_below w (Obj.cells #[a0, a1, a2, a3, a4, .slice A rs.length c] 49)
  have q5 : (w.alloc (Obj.cells #[a0, a1, a2, a3, a4, .slice A rs.length c] 49)).cell? ⟨w.heap.size, 5, Option.none⟩ = some (.slice A rs.length c) := by simp
  go_enter Tryd.func18, Tryd.ntmps18
  go_wp2
  go_loopw [3] (Counting (w.heap.size + 1) (w.alloc (Obj.cells #[a0, a1, a2, a3, a4, .slice A rs.length c] 49)) rs.length (fun k => ∀ j y, j < k → rs[j]? = some y → y.Small)) (fun i _ => rs.length - (intOf i).toNat)
  case atStart => exact ⟨0, Nat.zero_le _, rfl, fun _ _ h => absurd h (Nat.not_lt_zero _), Below.refl _ _⟩
  case round =>
    obtain ⟨k, hk, rfl, hall, hbel⟩ := hrel
    have Hall := Lib.hid hall
    clear hall
    have hbw : Below w.heap.size w wr := hbox.trans (hbel.mono (by omega))
    have q : wr.cell? ⟨w.heap.size, 5, Option.none⟩ = some (.slice A rs.length c) := (hbel.cell (p := ⟨w.heap.size, 5, Option.none⟩) (by simp)).trans q5
    have hs1 := hbel.size
    simp only [World.size_alloc] at hs1
    by_cases hlt : k < rs.length
    · obtain ⟨b, o, cs, r, rfl, hbB, hx, hR, -, hrow, -⟩ := relayAt (hr.mono RelayC.mono (Nat.le_refl _) (hbw.mono hB)) hlt
      have HX := Lib.hid hx
      have C := large_any cs r B wr (by omega) hR
      have HC := Lib.hid C
      clear C hx hR hr
      go_wp2_with (go_at_call 10; refine HC.out.mono ?_; rintro e w2 ⟨bb, hsm, rfl, hb2⟩; cases bb)
      · have hS : r.Small := by first | exact hsm rfl | exact hsm trivial | exact hsm
        go_roundw
        case rel => exact ⟨k + 1, by omega, by go_num, small_snoc Hall.out HX.out hS, hbel.trans (hb2.mono hs1)⟩
        case measure => simp [intOf]; omega
      · go_ret
        exact T _ (hbw.trans (hb2.mono hbw.size))
    · go_wp2
      go_ret
      obtain rfl : k = rs.length := by omega
      exact ⟨false, fun _ => ⟨b1, all_of_lt Hall.out⟩, rfl, hbw⟩

set_option maxRecDepth 100000 in
set_option maxHeartbeats 1000000 in
theorem rrelay_any (a0 a1 a2 a3 a4 : Value) (A : Option Addr) (c B : Nat) (rs : List RelayM) (v : ByteArray) (w : World) (hB : B ≤ w.heap.size) (h : Conf w B a0 a1 a2 a3 a4 A c rs) (hn : rs.length ≤ 1000) :
    Calls Tryd.prog 35 #[.agg #[a0, a1, a2, a3, a4, .slice A rs.length c], .string v] w (RetInt (idx (fun r => same r.name v) rs) w) := by
  have hr := h.rows
  clear h
  go_enter Tryd.func35, Tryd.ntmps35
  go_wp2
  go_loop [5] (fun i => ∃ k : Nat, k ≤ rs.length ∧ i = .int .i64 k ∧ NoneYet (fun d => same d.name v) rs k) (fun i => rs.length - (intOf i).toNat)
  case atStart => exact ⟨0, Nat.zero_le _, rfl, noneYet_zero _ _⟩
  case round =>
    obtain ⟨k, hk, rfl, hno⟩ := hrel
    have HN := Lib.hid hno
    clear hno
    by_cases hlt : k < rs.length
    · obtain ⟨b, o, cs, x, rfl, hbB, hx, hR, -, -, hat⟩ := relayAt hr hlt
      have hc0 : w.cell? ⟨b, o + k * 53, Option.none⟩ = some (.string x.name) := hat 0 _ hR.name
      have hb' : b < w.heap.size := by omega
      have HX := Lib.hid hx
      clear hx hr hat hR
      cases hs : same x.name v with
      | true =>
        have HS := Lib.hid hs
        have ht : (x.name.toList == v.toList) = true := hs
        clear hs
        go_wp2
        go_ret
        exact ⟨ret_int (idx_found HN.out HX.out HS.out).symm, box_below _ _⟩
      | false =>
        have HS := Lib.hid hs
        have ht : (x.name.toList == v.toList) = false := hs
        clear hs
        go_wp2
        go_round
        case rel => exact ⟨k + 1, by omega, by go_num, noneYet_succ HN.out HX.out HS.out⟩
        case measure => simp [intOf]; omega
    · go_wp2
      go_ret
      obtain rfl : k = rs.length := by omega
      exact ⟨ret_int (idx_none HN.out).symm, box_below _ _⟩

/-- A place and an error are returned; old memory is as it was. -/
def RetPlace (p : Int × Int × Int × Int) (w : World) (e : Ending) (w' : World) : Prop := e = .returned (.tuple #[.agg #[.int .i64 p.1, .int .i64 p.2.1, .int .i64 p.2.2.1], .int .i64 p.2.2.2]) ∧ Below w.heap.size w w'

/-- What a subscription of a relay denotes, if the index of the device is known. -/
def findP (rs : List RelayM) (relay dev : Int) (x : SubM) : Int × Int × Int × Int :=
  if dev < 0 then (0, 0, 0, 9) else if dev = relay then (0, 0, 0, 12) else
  match rs[dev.toNat]? with
  | Option.none => (0, 0, 0, 0)
  | some r =>
    if idx (fun d => same d.1 x.set) r.sets < 0 then (0, 0, 0, 9) else if has (fun p => same p x.set) r.pubs = false then (0, 0, 0, 11) else
    match r.sets[(idx (fun d => same d.1 x.set) r.sets).toNat]? with
    | Option.none => (0, 0, 0, 0)
    | some d => if idx (fun s => same s x.signal) d.2 < 0 then (0, 0, 0, 9) else (dev, idx (fun d => same d.1 x.set) r.sets, idx (fun s => same s x.signal) d.2, 0)

/-- The boxes that 'find' has laid from block g on: the subscription, the result, the relay. -/
structure FB (W : World) (g : Nat) (x : SubM) (cs : List Value) : Prop where
  lt : g + 1 + 1 + 1 < W.heap.size
  s2 : W.cell? ⟨g + 1, 2, Option.none⟩ = some (.string x.set)
  s3 : W.cell? ⟨g + 1, 3, Option.none⟩ = some (.string x.signal)
  r0 : W.cell? ⟨g + 1 + 1, 0, Option.none⟩ = some (.int .i64 0)
  r1 : W.cell? ⟨g + 1 + 1, 1, Option.none⟩ = some (.int .i64 0)
  r2 : W.cell? ⟨g + 1 + 1, 2, Option.none⟩ = some (.int .i64 0)
  z0 : W.frozen? ⟨g + 1 + 1, 0, Option.none⟩ = false
  z1 : W.frozen? ⟨g + 1 + 1, 1, Option.none⟩ = false
  z2 : W.frozen? ⟨g + 1 + 1, 2, Option.none⟩ = false
  box : W.rangeAt (g + 1 + 1 + 1) 0 cs
theorem FB.below {W W' : World} {g : Nat} {x : SubM} {cs : List Value} (h : FB W g x cs) (hb : Below W.heap.size W W') : FB W' g x cs := by
  have h1 := h.lt
  have h2 := hb.size
  refine ⟨by omega, ?_, ?_, ?_, ?_, ?_, ?_, ?_, ?_, rangeAt_below h.box hb (by omega)⟩
  · exact (hb.cell (p := ⟨g + 1, 2, Option.none⟩) (by show g + 1 < _; omega)).trans h.s2
  · exact (hb.cell (p := ⟨g + 1, 3, Option.none⟩) (by show g + 1 < _; omega)).trans h.s3
  · exact (hb.cell (p := ⟨g + 1 + 1, 0, Option.none⟩) (by show g + 1 + 1 < _; omega)).trans h.r0
  · exact (hb.cell (p := ⟨g + 1 + 1, 1, Option.none⟩) (by show g + 1 + 1 < _; omega)).trans h.r1
  · exact (hb.cell (p := ⟨g + 1 + 1, 2, Option.none⟩) (by show g + 1 + 1 < _; omega)).trans h.r2
  · exact (hb.frozen (p := ⟨g + 1 + 1, 0, Option.none⟩) (by show g + 1 + 1 < _; omega)).trans h.z0
  · exact (hb.frozen (p := ⟨g + 1 + 1, 1, Option.none⟩) (by show g + 1 + 1 < _; omega)).trans h.z1
  · exact (hb.frozen (p := ⟨g + 1 + 1, 2, Option.none⟩) (by show g + 1 + 1 < _; omega)).trans h.z2
theorem FB.mk' (w : World) (cc : Array Value) (x : SubM) (cs : List Value) :
    FB ((((w.alloc (Obj.cells cc 49)).alloc (Obj.cells #[.string x.loc, .string x.device, .string x.set, .string x.signal] 70)).alloc (Obj.cells #[.int .i64 0, .int .i64 0, .int .i64 0] 52)).alloc (Obj.cells cs.toArray 34)) w.heap.size x cs := by
  refine ⟨by simp, by go_simp, by go_simp, by go_simp, by go_simp, by go_simp, by go_simp, by go_simp, by go_simp, ?_⟩
  have := rangeAt_box (((w.alloc (Obj.cells cc 49)).alloc (Obj.cells #[.string x.loc, .string x.device, .string x.set, .string x.signal] 70)).alloc (Obj.cells #[.int .i64 0, .int .i64 0, .int .i64 0] 52)) cs 34
  simpa using this

theorem quiet_same {P : Program} {f : FuncId} {args : Array Value} {w : World} {n : Nat} {v : Value}
    (h : Calls P f args (w.drewN n) fun e w' => e = .returned v ∧ w.drewN n = w') : Calls P f args (w.drewN n) fun e w'' => e = .returned v ∧ ∃ m, w'' = w.drewN m :=
  h.mono fun _ _ ⟨he, hm⟩ => ⟨he, n, hm.symm⟩
theorem below_set3 {B : Nat} {w w5 : World} (h : Below B w w5) (g : Nat) (hg : B ≤ g) (a b c : Value) : Below B w (((w5.setCell ⟨g, 0, Option.none⟩ a).setCell ⟨g, 1, Option.none⟩ b).setCell ⟨g, 2, Option.none⟩ c) :=
  ((h.setCell (p := ⟨g, 0, Option.none⟩) hg a).setCell (p := ⟨g, 1, Option.none⟩) hg b).setCell (p := ⟨g, 2, Option.none⟩) hg c

set_option maxRecDepth 100000 in
set_option maxHeartbeats 4000000 in
theorem find_any (a0 a1 a2 a3 a4 : Value) (A : Option Addr) (c B : Nat) (rs : List RelayM) (relay dev : Int) (x : SubM) (w : World) (hB : B ≤ w.heap.size) (h : Conf w B a0 a1 a2 a3 a4 A c rs) (hn : SmallAll rs) (hd : dev < (rs.length : Int)) :
    Calls Tryd.prog 34 #[.agg #[a0, a1, a2, a3, a4, .slice A rs.length c], .int .i64 relay, .int .i64 dev, .agg #[.string x.loc, .string x.device, .string x.set, .string x.signal]] w (RetPlace (findP rs relay dev x) w) := by
  have hr := h.rows
  clear h
  have hbA := box_below w (Obj.cells #[a0, a1, a2, a3, a4, .slice A rs.length c] 49)
  have hbB := hbA.trans ((box_below (w.alloc (Obj.cells #[a0, a1, a2, a3, a4, .slice A rs.length c] 49)) (Obj.cells #[.string x.loc, .string x.device, .string x.set, .string x.signal] 70)).mono (by simp))
  by_cases h0 : dev < 0
  · have e0 : findP rs relay dev x = (0, 0, 0, 9) := by simp [findP, h0]
    rw [e0]
    clear e0 hr
    go_enter Tryd.func34, Tryd.ntmps34
    go_wp2
    refine bodyPost_ret (v := .tuple #[.agg #[.int .i64 0, .int .i64 0, .int .i64 0], .int .i64 9]) (by simp [results, Tryd.results34, go_sem]) rfl ⟨rfl, ?_⟩
    exact hbB.alloc (by simp; omega) _
  by_cases h1 : dev = relay
  · subst h1
    have e0 : findP rs dev dev x = (0, 0, 0, 12) := by simp [findP, h0]
    rw [e0]
    clear e0 hr
    go_enter Tryd.func34, Tryd.ntmps34
    go_wp2
    refine bodyPost_ret (v := .tuple #[.agg #[.int .i64 0, .int .i64 0, .int .i64 0], .int .i64 12]) (by simp [results, Tryd.results34, go_sem]) rfl ⟨rfl, ?_⟩
    exact hbB.alloc (by simp; omega) _
  obtain ⟨k, rfl⟩ := Int.eq_ofNat_of_zero_le (by omega : 0 ≤ dev)
  have hk : k < rs.length := by omega
  obtain ⟨b, o, cs, r, rfl, hbB', hx, hR, hbx, hrow, -⟩ := relayAt hr hk
  have hsm : r.Small := hn.2 r (List.mem_of_getElem? hx)
  have HX := Lib.hid hx
  have b1 : ((k : Int) == relay) = false := by simpa using h1
  have hb' : b < w.heap.size := by omega
  have hsl := hsm.sets
  have hpl := hsm.pubs
  obtain ⟨c50, h50, A2, k2, e2, l2, m2, R2⟩ := hR.sets
  obtain ⟨c51, h51, A3, k3, e3, l3, m3, R3⟩ := hR.pubs
  cases e2; cases e3
  have HR := Lib.hid hR
  have hW3 : Below w.heap.size w (((w.alloc (Obj.cells #[a0, a1, a2, a3, a4, .slice (some ⟨b, o, Option.none⟩) rs.length c] 49)).alloc (Obj.cells #[.string x.loc, .string x.device, .string x.set, .string x.signal] 70)).alloc (Obj.cells #[.int .i64 0, .int .i64 0, .int .i64 0] 52)) := hbB.alloc (by simp; omega) _
  have hW4 := hW3.alloc (by simp; omega) (Obj.cells cs.toArray 34)
  have hrow4 := rowAt_new (((w.alloc (Obj.cells #[a0, a1, a2, a3, a4, .slice (some ⟨b, o, Option.none⟩) rs.length c] 49)).alloc (Obj.cells #[.string x.loc, .string x.device, .string x.set, .string x.signal] 70)).alloc (Obj.cells #[.int .i64 0, .int .i64 0, .int .i64 0] 52)) cs 34 (w.heap.size + 1 + 1 + 1) 53 (by simp) hbx
  have hrowA := rowAt_below hrow ((hbB.alloc (by simp; omega) (Obj.cells #[.int .i64 0, .int .i64 0, .int .i64 0] 52)).mono hB) hbB'
  clear hrow hx hr hR
  go_enter Tryd.func34, Tryd.ntmps34
  go_wp2_with fail
  have F4 := FB.mk' w #[a0, a1, a2, a3, a4, .slice (some ⟨b, o, Option.none⟩) rs.length c] x cs
  generalize ((((w.alloc (Obj.cells #[a0, a1, a2, a3, a4, .slice (some ⟨b, o, Option.none⟩) rs.length c] 49)).alloc (Obj.cells #[.string x.loc, .string x.device, .string x.set, .string x.signal] 70)).alloc (Obj.cells #[.int .i64 0, .int .i64 0, .int .i64 0] 52)).alloc (Obj.cells cs.toArray 34)) = W4 at *
  clear hrowA hW3 hbA hbB hrow4
  have hs4 := hW4.size
  refine (setOf_any cs r B x.set W4 (by omega) (RelayC.mono _ _ _ _ _ _ (Nat.le_refl _) (hW4.mono hB) HR.out) (by omega)).mono ?_
  rintro e w5 ⟨rfl, hb5⟩
  have F5 := F4.below hb5
  have hW5 := hW4.trans (hb5.mono hs4)
  clear hb5 F4 hW4 hs4
  obtain ⟨lt5, s2, s3, r0, r1, r2, z0, z1, z2, box⟩ := F5
  have F5 : FB w5 w.heap.size x cs := ⟨lt5, s2, s3, r0, r1, r2, z0, z1, z2, box⟩
  have c50 : w5.cell? ⟨w.heap.size + 1 + 1 + 1, 50, Option.none⟩ = some (.slice A2 r.sets.length k2) := by simpa using box 50 _ h50
  have c51 : w5.cell? ⟨w.heap.size + 1 + 1 + 1, 51, Option.none⟩ = some (.slice A3 r.pubs.length k3) := by simpa using box 51 _ h51
  clear box
  rcases idx_cases (fun d : ByteArray × List ByteArray => same d.1 x.set) r.sets with ⟨hi, -⟩ | ⟨si, sd, hi, hsd, -, -⟩
  · have e0 : findP rs relay (k : Int) x = (0, 0, 0, 9) := by simp [findP, HX.out, hi, h1]
    have HE := Lib.hid e0
    rw [hi]
    clear e0 hi HX
    go_wp2
    refine bodyPost_ret (v := .tuple #[.agg #[.int .i64 0, .int .i64 0, .int .i64 0], .int .i64 9]) (by simp [results, Tryd.results34, go_sem, r0, r1, r2]) rfl ⟨by rw [HE.out], ?_⟩
    exact below_set3 hW5 _ (by omega) _ _ _
  · have hsi : si < r.sets.length := (List.getElem?_eq_some_iff.1 hsd).1
    rw [hi]
    have HI := Lib.hid hi
    have HD := Lib.hid hsd
    have hs5 := hW5.size
    have hb5 : w.heap.size ≤ w5.heap.size := hs5
    clear hi
    go_wp2_with fail
    refine (contains_any A3 k3 B (w.heap.size + 1) r.pubs x.set w5 (by omega) (R3.mono PubC.mono (Nat.le_refl _) (hW5.mono hB)) (by omega) (by omega) s2).mono ?_
    rintro e w6 ⟨rfl, hb6⟩
    have F6 := F5.below hb6
    have hW6 := hW5.trans (hb6.mono hs5)
    clear hb6 F5 hW5 hs5 lt5 s2 s3 r0 r1 r2 z0 z1 z2 c50 c51
    obtain ⟨lt5, s2, s3, r0, r1, r2, z0, z1, z2, box⟩ := F6
    have c50 : w6.cell? ⟨w.heap.size + 1 + 1 + 1, 50, Option.none⟩ = some (.slice A2 r.sets.length k2) := by simpa using box 50 _ h50
    clear box
    cases hh : has (fun r => same r x.set) r.pubs with
    | false =>
      have e0 : findP rs relay (k : Int) x = (0, 0, 0, 11) := by simp [findP, HX.out, HI.out, h1, hh, show ¬ ((si : Int) < 0) by omega, show ¬ ((k : Int) < 0) by omega]
      have HE := Lib.hid e0
      clear e0 hh HX HI HD hsd
      go_wp2
      refine bodyPost_ret (v := .tuple #[.agg #[.int .i64 0, .int .i64 0, .int .i64 0], .int .i64 11]) (by simp [results, Tryd.results34, go_sem, r0, r1, r2]) rfl ⟨by rw [HE.out], ?_⟩
      exact below_set3 hW6 _ (by omega) _ _ _
    | true =>
      obtain ⟨b2, o2, ds, sd', rfl, hbb, hsd', -, ⟨c5, rfl, -, A5, k5, e5, l5, m5, R5⟩, hat⟩ := (R2.mono SetC.mono (Nat.le_refl _) (hW6.mono hB)).at_ hsi
      obtain rfl : sd' = sd := by rw [hsd'] at hsd; exact Option.some.inj hsd
      cases e5
      have hc1 := hat 1 _ rfl
      have hi0 : (0 : Int) ≤ (si : Int) := by omega
      have hi1 : (si : Int) < (r.sets.length : Int) := by omega
      have hm5 : sd'.2.length ≤ 9223372036854775807 := by unfold maxLen at m5; omega
      have HH := Lib.hid hh
      clear hsd hsd' hat hh R2 R3 h50 h51 HR
      go_wp2
      go_quiet ((go_at_call 46; exact quiet_same (sindex_any A5 k5 B sd'.2 x.signal _ R5 hm5)))
      rcases idx_cases (fun s : ByteArray => same s x.signal) sd'.2 with ⟨hj, -⟩ | ⟨j, sg, hj, hsg, -, -⟩
      · have e0 : findP rs relay (k : Int) x = (0, 0, 0, 9) := by simp [findP, HX.out, HI.out, h1, HH.out, HD.out, hj, show ¬ ((si : Int) < 0) by omega, show ¬ ((k : Int) < 0) by omega]
        have HE := Lib.hid e0
        rw [hj]
        clear e0 hj HX HI HD HH
        go_wp2
        refine bodyPost_ret (v := .tuple #[.agg #[.int .i64 0, .int .i64 0, .int .i64 0], .int .i64 9]) (by simp [results, Tryd.results34, go_sem, r0, r1, r2]) rfl ⟨by rw [HE.out], ?_⟩
        exact below_set3 (below_drewN hW6 _) _ (by omega) _ _ _
      · have e0 : findP rs relay (k : Int) x = ((k : Int), (si : Int), (j : Int), 0) := by simp [findP, HX.out, HI.out, h1, HH.out, HD.out, hj, show ¬ ((si : Int) < 0) by omega, show ¬ ((k : Int) < 0) by omega, show ¬ ((j : Int) < 0) by omega]
        have HE := Lib.hid e0
        rw [hj]
        clear e0 hj HX HI HD HH
        go_wp2
        refine bodyPost_ret (v := .tuple #[.agg #[.int .i64 k, .int .i64 si, .int .i64 j], .int .i64 0]) (by simp [results, Tryd.results34, go_sem, r0, r1, r2]) rfl ⟨by rw [HE.out], ?_⟩
        exact below_set3 (below_drewN hW6 _) _ (by omega) _ _ _
end Go.Proofs.YtfncnhgopbmabaaDoor
