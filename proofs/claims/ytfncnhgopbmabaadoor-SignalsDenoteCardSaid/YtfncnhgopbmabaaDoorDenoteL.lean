/-
  The law SignalsDenote: in a configuration without errors each subscription denotes a signal with the name it gives.
-/
import Derived.Test.YtfncnhgopbmabaaDoorPlainB
import Derived.Test.YtfncnhgopbmabaaDoorReadersL
namespace Go.Proofs.YtfncnhgopbmabaaDoor
open Go.RowKit

attribute [local go_sem ↓] loadRelay_fold storeRelay_fold
attribute [local go_sem] loadRelay_row storeRelay_new

set_option maxHeartbeats 1000000 in
theorem reads_any (A : Option Addr) (c B : Nat) (L : List (Nat × Nat)) (i k : Nat) (w : World) (hr : Rws PrC 2 w B A L.length L) (hL : L.length ≤ 1000) (hm : (i, k) ∈ L) :
    Calls Tryd.prog 26 #[.slice A L.length c, .int .i64 (i : Int), .int .i64 (k : Int)] w fun e w' => e = .returned (.bool true) ∧ w = w' := by
  have HM := Lib.hid hm
  clear hm
  go_enter Tryd.func26, Tryd.ntmps26
  go_wp2
  go_loop [7] (fun v => ∃ m : Nat, m ≤ L.length ∧ v = .int .i64 m ∧ NoneYet (fun p => decide (p = (i, k))) L m) (fun v => L.length - (intOf v).toNat)
  case atStart => exact ⟨0, Nat.zero_le _, rfl, noneYet_zero _ _⟩
  case round =>
    obtain ⟨m, hm, rfl, hno⟩ := hrel
    have HN := Lib.hid hno
    clear hno
    by_cases hlt : m < L.length
    · obtain ⟨b, o, ds, p, rfl, -, hx, -, rfl, hat⟩ := hr.at_ hlt
      have g0 : w.cell? ⟨b, o + m * 2, Option.none⟩ = some (.int .i64 (p.1 : Int)) := hat 0 _ rfl
      have g1 : w.cell? ⟨b, o + m * 2 + 1, Option.none⟩ = some (.int .i64 (p.2 : Int)) := hat 1 _ rfl
      have HX := Lib.hid hx
      clear hx hat hr
      by_cases h1 : p.1 = i
      · have b1 : (((p.1 : Nat) : Int) == (i : Int)) = true := by simp [h1]
        by_cases h2 : p.2 = k
        · have b2 : (((p.2 : Nat) : Int) == (k : Int)) = true := by simp [h2]
          clear h1 h2
          go_wp2
          go_ret
          exact ⟨rfl, rfl⟩
        · have b2 : (((p.2 : Nat) : Int) == (k : Int)) = false := by simpa using fun h : ((p.2 : Nat) : Int) = (k : Int) => h2 (by omega)
          have hne : decide (p = (i, k)) = false := by simp; rintro rfl; exact h2 rfl
          have HE := Lib.hid hne
          clear h1 h2 hne
          go_wp2
          go_round
          case rel => exact ⟨m + 1, by omega, by go_num, noneYet_succ HN.out HX.out HE.out⟩
          case measure => simp [intOf]; omega
      · have b1 : (((p.1 : Nat) : Int) == (i : Int)) = false := by simpa using fun h : ((p.1 : Nat) : Int) = (i : Int) => h1 (by omega)
        have hne : decide (p = (i, k)) = false := by simp; rintro rfl; exact h1 rfl
        have HE := Lib.hid hne
        clear h1 hne
        go_wp2
        go_round
        case rel => exact ⟨m + 1, by omega, by go_num, noneYet_succ HN.out HX.out HE.out⟩
        case measure => simp [intOf]; omega
    · exfalso
      obtain rfl : m = L.length := by omega
      obtain ⟨j, hj⟩ := List.getElem?_of_mem HM.out
      have := HN.out j _ (List.getElem?_eq_some_iff.1 hj).1 hj
      simp at this
theorem reads_below (A : Option Addr) (c B : Nat) (L : List (Nat × Nat)) (i k : Nat) (w : World) (hr : Rws PrC 2 w B A L.length L) (hL : L.length ≤ 1000) (hm : (i, k) ∈ L) :
    Calls Tryd.prog 26 #[.slice A L.length c, .int .i64 (i : Int), .int .i64 (k : Int)] w (RetBool true w) :=
  (reads_any A c B L i k w hr hL hm).mono fun _ _ ⟨he, hw⟩ => ⟨he, by subst hw; exact Below.refl _ _⟩

/-- The cells that the last test of a round reads. -/
def DS (w' : World) (g x p r b8 i8 b5 i5 : Nat) (cs : List Value) (a0 a1 a2 a3 a4 v v50 v5 : Value) (d s j : Int) (sg : ByteArray) : Prop :=
  rowAt w' r 0 53 = some cs ∧ w'.cell? ⟨r, 50, Option.none⟩ = some v50 ∧ w'.cell? ⟨p, 0, Option.none⟩ = some (.int .i64 d) ∧ w'.cell? ⟨p, 1, Option.none⟩ = some (.int .i64 s) ∧ w'.cell? ⟨p, 2, Option.none⟩ = some (.int .i64 j) ∧
  w'.cell? ⟨x, 3, Option.none⟩ = some (.string sg) ∧ w'.cell? ⟨b8, i8, Option.none⟩ = some v5 ∧ w'.cell? ⟨b5, i5, Option.none⟩ = some (.string sg) ∧
  w'.cell? ⟨g, 0, Option.none⟩ = some a0 ∧ w'.cell? ⟨g, 1, Option.none⟩ = some a1 ∧ w'.cell? ⟨g, 2, Option.none⟩ = some a2 ∧ w'.cell? ⟨g, 3, Option.none⟩ = some a3 ∧ w'.cell? ⟨g, 4, Option.none⟩ = some a4 ∧ w'.cell? ⟨g, 5, Option.none⟩ = some v
theorem DS.below {W W' : World} {B g x p r b8 i8 b5 i5 : Nat} {cs : List Value} {a0 a1 a2 a3 a4 v v50 v5 : Value} {d s j : Int} {sg : ByteArray} (h : DS W g x p r b8 i8 b5 i5 cs a0 a1 a2 a3 a4 v v50 v5 d s j sg) (hb : Below B W W')
    (hg : g < B) (hx : x < B) (hp : p < B) (hr : r < B) (h8 : b8 < B) (h5 : b5 < B) : DS W' g x p r b8 i8 b5 i5 cs a0 a1 a2 a3 a4 v v50 v5 d s j sg := by
  obtain ⟨c1, c2, c3, c4, c5, c6, c7, c8, c9, c10, c11, c12, c13, c14⟩ := h
  exact ⟨rowAt_below c1 hb hr, (hb.cell (p := ⟨r, 50, Option.none⟩) hr).trans c2, (hb.cell (p := ⟨p, 0, Option.none⟩) hp).trans c3, (hb.cell (p := ⟨p, 1, Option.none⟩) hp).trans c4, (hb.cell (p := ⟨p, 2, Option.none⟩) hp).trans c5,
    (hb.cell (p := ⟨x, 3, Option.none⟩) hx).trans c6, (hb.cell (p := ⟨b8, i8, Option.none⟩) h8).trans c7, (hb.cell (p := ⟨b5, i5, Option.none⟩) h5).trans c8,
    (hb.cell (p := ⟨g, 0, Option.none⟩) hg).trans c9, (hb.cell (p := ⟨g, 1, Option.none⟩) hg).trans c10, (hb.cell (p := ⟨g, 2, Option.none⟩) hg).trans c11, (hb.cell (p := ⟨g, 3, Option.none⟩) hg).trans c12, (hb.cell (p := ⟨g, 4, Option.none⟩) hg).trans c13, (hb.cell (p := ⟨g, 5, Option.none⟩) hg).trans c14⟩

def DnO (B : Nat) (W : World) (n : Nat) (i : Value) (wr : World) : Prop := ∃ k : Nat, k ≤ n ∧ i = .int .i64 k ∧ Below B W wr

set_option maxRecDepth 100000 in
set_option maxHeartbeats 8000000 in
theorem denote_any (a0 a1 a2 a3 a4 : Value) (A : Option Addr) (c B : Nat) (rs : List RelayM) (w : World) (hB : B ≤ w.heap.size) (h : Conf w B a0 a1 a2 a3 a4 A c rs) :
    Calls Tryd.prog 8 #[.agg #[a0, a1, a2, a3, a4, .slice A rs.length c]] w (RetBool true w) := by
  have hbox := box_below w (Obj.cells #[a0, a1, a2, a3, a4, .slice A rs.length c] 49)
  have CB0 := CB.new w a0 a1 a2 a3 a4 (.slice A rs.length c) 49
  have H := Lib.hid h
  clear h
  go_enter Tryd.func8, Tryd.ntmps8
  go_wp2_with fail
  refine (known_any _).mono ?_
  rintro e w1 ⟨rfl, hb1⟩
  have CB1 := CB0.below hb1 CB0.lt
  have hw1 := hbox.trans (hb1.mono (by simp))
  have hs1 := hw1.size
  clear hb1 CB0 hbox
  obtain ⟨-, q0, q1, q2, q3, q4, q5⟩ := id CB1
  go_wp2_with fail
  refine (clarge_any a0 a1 a2 a3 a4 A c B rs w1 (by omega) (H.out.mono (Nat.le_refl _) (hw1.mono hB))).mono ?_
  rintro e w2 ⟨b, hsm, rfl, hb2⟩
  have hw2 := hw1.trans (hb2.mono hs1)
  have CB2 := CB1.below hb2 CB1.lt
  have hs2 := hw2.size
  clear hb2 CB1 q0 q1 q2 q3 q4 q5
  cases b
  case true =>
    go_wp2
    go_ret
    exact ⟨rfl, hw2⟩
  have hS : SmallAll rs := hsm rfl
  have HS := Lib.hid hS
  have hn20 := hS.1
  clear hsm hS
  obtain ⟨-, q0, q1, q2, q3, q4, q5⟩ := id CB2
  go_wp2_with fail
  refine (check_any a0 a1 a2 a3 a4 A c B rs w2 (by omega) (H.out.mono (Nat.le_refl _) (hw2.mono hB)) HS.out).mono ?_
  rintro e w3 ⟨rfl, hb3⟩
  have hw3 := hw2.trans (hb3.mono hs2)
  have CB3 := CB2.below hb3 CB2.lt
  have hs3 := hw3.size
  have hglt := CB3.lt
  clear hb3 CB2 q0 q1 q2 q3 q4 q5
  have hck := check_zero (rs := rs) (n := rs.length)
  generalize checkUpto rs rs.length = p at *
  cases hz : (p.2 != 0) with
  | true =>
    clear hck
    go_wp2
    go_ret
    exact ⟨rfl, hw3⟩
  | false =>
  have HZ := Lib.hid (hck (by simpa using hz))
  have hr := Lib.hid H.out.rows
  clear hck
  go_wp2_with fail
  clear hz
  go_loopw [5] (DnO w3.heap.size w3 rs.length) (fun i _ => rs.length - (intOf i).toNat)
  case atStart => exact ⟨0, Nat.zero_le _, rfl, Below.refl _ _⟩
  case round =>
    obtain ⟨k, hk, rfl, hbel⟩ := hrel
    have hsz := hbel.size
    have hbw := hw3.trans (hbel.mono hs3)
    obtain ⟨-, q0, q1, q2, q3, q4, q5⟩ := CB3.below hbel hglt
    by_cases hlt : k < rs.length
    · obtain ⟨b, o, cs0, r0, rfl, hbB, hx, hR0, -, -, hat⟩ := relayAt hr.out hlt
      have HX := Lib.hid hx
      have hz1 := one_zero hx (HZ.out k hlt)
      obtain ⟨c52, h52, A7, k7, e7, l7, m7, R7⟩ := hR0.subs
      cases e7
      have hb' : b < w.heap.size := by omega
      have s52 : w.cell? ⟨b, o + k * 53 + 52, Option.none⟩ = some (.slice A7 r0.subs.length k7) := hat 52 _ h52
      have hsub : r0.subs.length ≤ 30 := (HS.out.2 r0 (List.mem_of_getElem? hx)).subs
      have HZ1 := Lib.hid hz1.2
      have R7' := Lib.hid R7
      clear hx hz1 hR0 h52 hat R7
      have k0 : (0 : Int) ≤ (k : Int) := by omega
      have k1 : (k : Int) < (rs.length : Int) := by omega
      go_wp2_with fail
      clear q0 q1 q2 q3 q4 q5
      go_loopw [6] (DnO w3.heap.size w3 r0.subs.length) (fun i _ => r0.subs.length - (intOf i).toNat)
      case atStart => exact ⟨0, Nat.zero_le _, rfl, hbel⟩
      case round =>
        clear hbel hsz hbw
        obtain ⟨m, hm, rfl, hbel⟩ := hrel
        have hsz := hbel.size
        have hbw := hw3.trans (hbel.mono hs3)
        have CBr := CB3.below hbel hglt
        obtain ⟨hlt9, q0, q1, q2, q3, q4, q5⟩ := id CBr
        have t52 : wr.cell? ⟨b, o + k * 53 + 52, Option.none⟩ = some (.slice A7 r0.subs.length k7) := (hbw.cell (p := ⟨b, o + k * 53 + 52, Option.none⟩) hb').trans s52
        by_cases hmt : m < r0.subs.length
        · obtain ⟨b2, o2, ds2, sb, rfl, hbb, hsx, -, ⟨rfl, -, -, -, -⟩, hat2⟩ := (R7'.out.mono SubC.mono (Nat.le_refl _) (hbw.mono hB)).at_ hmt
          have e0 : wr.cell? ⟨b2, o2 + m * 4, Option.none⟩ = some (.string sb.loc) := hat2 0 _ rfl
          have e1 : wr.cell? ⟨b2, o2 + m * 4 + 1, Option.none⟩ = some (.string sb.device) := hat2 1 _ rfl
          have e2 : wr.cell? ⟨b2, o2 + m * 4 + 2, Option.none⟩ = some (.string sb.set) := hat2 2 _ rfl
          have e3 : wr.cell? ⟨b2, o2 + m * 4 + 3, Option.none⟩ = some (.string sb.signal) := hat2 3 _ rfl
          obtain ⟨d, s, j, r, dd, hF, D⟩ := find_ok HX.out hsx (HZ1.out m hmt)
          have hmem : (k, m) ∈ gone rs (d : Int) (s : Int) rs.length 0 := gone_mem HX.out hmt (by unfold hit; rw [hF]; simp)
          have hgl := gone_len (relay := (d : Int)) (set := (s : Int)) HS.out rs.length 0 HS.out.1 (by omega)
          have hdl : d < rs.length := (List.getElem?_eq_some_iff.1 D.relay).1
          obtain ⟨b1, o1, cs, r1, hA, -, hrd, hR, hbx, hrow, -⟩ := relayAt hr.out hdl
          obtain ⟨rfl, rfl⟩ : b = b1 ∧ o = o1 := by injection hA with h; injection h with h1 h2; exact ⟨h1, h2⟩
          obtain rfl : r = r1 := by rw [D.relay] at hrd; exact Option.some.inj hrd
          have hown := (one_zero D.relay (HZ.out d hdl)).1
          have hru := (HS.out.2 r (List.mem_of_getElem? D.relay)).rules
          obtain ⟨c50, h50, A8, k8, e8, l8, m8, R8⟩ := hR.sets
          cases e8
          have hsl : s < r.sets.length := (List.getElem?_eq_some_iff.1 D.set).1
          obtain ⟨b8, o8, ds8, x8, rfl, hb8, hx8, -, ⟨cx, rfl, -, A5, k5, e5, l5, m5, R5⟩, hat8⟩ := R8.at_ hsl
          obtain rfl : dd = x8 := by have := D.set; rw [hx8] at this; exact (Option.some.inj this).symm
          cases e5
          have hjl : j < dd.2.length := (List.getElem?_eq_some_iff.1 D.item).1
          obtain ⟨b5, o5, sg, rfl, hb5, hsg, -, hc5⟩ := R5.strAt hjl
          obtain rfl : sb.signal = sg := by have := D.item; rw [hsg] at this; exact (Option.some.inj this).symm
          have hout := out_of_own hown D.set D.item
          have HSO := Lib.hid (outputs_sizes hR)
          have hlO : r.outputs.length ≤ 36 := by have := fixedL_len r.kind; simp only [RelayM.outputs, List.length_append, List.length_map]; omega
          have f0 : w.cell? ⟨b8, o8 + s * 2, Option.none⟩ = some (.string sb.set) := by rw [← D.setName]; exact hat8 0 _ rfl
          have f1 : w.cell? ⟨b8, o8 + s * 2 + 1, Option.none⟩ = some (.slice (some ⟨b5, o5, Option.none⟩) dd.2.length k5) := hat8 1 _ rfl
          have hnm := hR.name
          rw [D.name] at hnm
          have n4 : ((d : Int) == (k : Int)) = false := by simpa using D.other
          have HR := Lib.hid hR
          have C := fun W' (hb : Below wr.heap.size wr W') => Find_any a0 a1 a2 a3 a4 (some ⟨b, o, Option.none⟩) c B rs (k : Int) (m : Int) W' (by have := hb.size; omega) (H.out.mono (Nat.le_refl _) ((hbw.trans (hb.mono (by omega))).mono hB)) HS.out
          simp only [hF] at C
          have HC := Lib.hid C
          have m0 : (0 : Int) ≤ (m : Int) := by omega
          have m1 : (m : Int) < (r0.subs.length : Int) := by omega
          clear C hsx hat2 hF D hrd hA hR R8 hx8 hat8 R5 hsg hown
          go_wp2_with fail
          refine (HC.out _ (box_below _ _)).mono ?_
          rintro e w6 ⟨rfl, hb6⟩
          have hx6 : Below wr.heap.size wr w6 := (box_below wr (Obj.cells #[.string sb.loc, .string sb.device, .string sb.set, .string sb.signal] 70)).trans (hb6.mono (by simp))
          have hs6 : wr.heap.size + 1 ≤ w6.heap.size := by have := hb6.size; simp only [World.size_alloc] at this; exact this
          have hbw6 := hbw.trans (hx6.mono (by omega))
          have CB6 := CBr.below hx6 hlt9
          have g1 : w6.cell? ⟨wr.heap.size, 1, Option.none⟩ = some (.string sb.device) := (hb6.cell (p := ⟨wr.heap.size, 1, Option.none⟩) (by simp)).trans (by go_simp)
          have g2 : w6.cell? ⟨wr.heap.size, 2, Option.none⟩ = some (.string sb.set) := (hb6.cell (p := ⟨wr.heap.size, 2, Option.none⟩) (by simp)).trans (by go_simp)
          have g3 : w6.cell? ⟨wr.heap.size, 3, Option.none⟩ = some (.string sb.signal) := (hb6.cell (p := ⟨wr.heap.size, 3, Option.none⟩) (by simp)).trans (by go_simp)
          obtain ⟨hlt6, p0, p1, p2, p3, p4, p5⟩ := id CB6
          have hrow6 := rowAt_below hrow (hbw6.mono hB) hbB
          have d0 : (0 : Int) ≤ (d : Int) := by omega
          have d1 : (d : Int) < (rs.length : Int) := by omega
          have d2 : ¬ ((rs.length : Int) ≤ (d : Int)) := by omega
          have hrowN := rowAt_new (w6.alloc (Obj.cells #[.int .i64 (d : Int), .int .i64 (s : Int), .int .i64 (j : Int)] 52)) cs 34 (w6.heap.size + 1) 53 (by simp) hbx
          have hrowO := (rowAt_alloc_old w6 (Obj.cells #[.int .i64 (d : Int), .int .i64 (s : Int), .int .i64 (j : Int)] 52) b (o + d * 53) 53 (by omega)).trans hrow6
          clear hb6 q0 q1 q2 q3 q4 q5 e0 e1 e2 e3 t52 HC
          go_wp2_with fail
          have hb8a := (box_below w6 (Obj.cells #[.int .i64 (d : Int), .int .i64 (s : Int), .int .i64 (j : Int)] 52)).alloc (by simp) (Obj.cells cs.toArray 34)
          have u0 : ((w6.alloc (Obj.cells #[.int .i64 (d : Int), .int .i64 (s : Int), .int .i64 (j : Int)] 52)).alloc (Obj.cells cs.toArray 34)).cell? ⟨w6.heap.size, 0, Option.none⟩ = some (.int .i64 (d : Int)) := by go_simp
          have u1 : ((w6.alloc (Obj.cells #[.int .i64 (d : Int), .int .i64 (s : Int), .int .i64 (j : Int)] 52)).alloc (Obj.cells cs.toArray 34)).cell? ⟨w6.heap.size, 1, Option.none⟩ = some (.int .i64 (s : Int)) := by go_simp
          have uu2 : ((w6.alloc (Obj.cells #[.int .i64 (d : Int), .int .i64 (s : Int), .int .i64 (j : Int)] 52)).alloc (Obj.cells cs.toArray 34)).cell? ⟨w6.heap.size, 2, Option.none⟩ = some (.int .i64 (j : Int)) := by go_simp
          have hsz8 : ((w6.alloc (Obj.cells #[.int .i64 (d : Int), .int .i64 (s : Int), .int .i64 (j : Int)] 52)).alloc (Obj.cells cs.toArray 34)).heap.size = w6.heap.size + 1 + 1 := by simp
          have hN1 : w6.heap.size + 1 < ((w6.alloc (Obj.cells #[.int .i64 (d : Int), .int .i64 (s : Int), .int .i64 (j : Int)] 52)).alloc (Obj.cells cs.toArray 34)).heap.size := by rw [hsz8]; omega
          generalize (w6.alloc (Obj.cells #[.int .i64 (d : Int), .int .i64 (s : Int), .int .i64 (j : Int)] 52)).alloc (Obj.cells cs.toArray 34) = W8 at *
          have CB8 := CB6.below hb8a hlt6
          have x1 : W8.cell? ⟨wr.heap.size, 1, Option.none⟩ = some (.string sb.device) := (hb8a.cell (p := ⟨wr.heap.size, 1, Option.none⟩) (by show wr.heap.size < _; omega)).trans g1
          have x2 : W8.cell? ⟨wr.heap.size, 2, Option.none⟩ = some (.string sb.set) := (hb8a.cell (p := ⟨wr.heap.size, 2, Option.none⟩) (by show wr.heap.size < _; omega)).trans g2
          have x3 : W8.cell? ⟨wr.heap.size, 3, Option.none⟩ = some (.string sb.signal) := (hb8a.cell (p := ⟨wr.heap.size, 3, Option.none⟩) (by show wr.heap.size < _; omega)).trans g3
          have hbw8 := hbw6.trans (hb8a.mono (by omega))
          have hbe8 := hbel.trans ((hx6.trans (hb8a.mono (by omega))).mono hsz)
          have y0 : W8.cell? ⟨b8, o8 + s * 2, Option.none⟩ = some (.string sb.set) := (hbw8.cell (p := ⟨b8, o8 + s * 2, Option.none⟩) (by show b8 < _; omega)).trans f0
          have y1 : W8.cell? ⟨b8, o8 + s * 2 + 1, Option.none⟩ = some (.slice (some ⟨b5, o5, Option.none⟩) dd.2.length k5) := (hbw8.cell (p := ⟨b8, o8 + s * 2 + 1, Option.none⟩) (by show b8 < _; omega)).trans f1
          have y5 : W8.cell? ⟨b5, o5 + j, Option.none⟩ = some (.string sb.signal) := (hbw8.cell (p := ⟨b5, o5 + j, Option.none⟩) (by show b5 < _; omega)).trans hc5
          have v0 : W8.cell? ⟨w6.heap.size + 1, 0, Option.none⟩ = some (.string sb.device) := by simpa using (of_rowAt hrowN).2 0 _ hnm
          have v50 : W8.cell? ⟨w6.heap.size + 1, 50, Option.none⟩ = some (.slice (some ⟨b8, o8, Option.none⟩) r.sets.length k8) := by simpa using (of_rowAt hrowN).2 50 _ h50
          have t1 : decide ((s : Int) < 0) = false := by simp
          have t2 : decide (r.sets.length ≤ s) = false := by simp; omega
          have t3 : decide ((j : Int) < 0) = false := by simp
          have t4 : decide (dd.2.length ≤ j) = false := by simp; omega
          have s0 : (0 : Int) ≤ (s : Int) := by omega
          have s1 : (s : Int) < (r.sets.length : Int) := by omega
          have j0 : (0 : Int) ≤ (j : Int) := by omega
          have j1 : (j : Int) < (dd.2.length : Int) := by omega
          obtain ⟨hlt8, r0', r1', r2', r3', r4', r5'⟩ := id CB8
          clear p0 p1 p2 p3 p4 p5 g1 g2 g3 hrow6 hrowO hb8a hsz8
          go_quiet (fail)
          rename_i nq
          have DS8 : DS W8 w.heap.size wr.heap.size w6.heap.size (w6.heap.size + 1) b8 (o8 + s * 2 + 1) b5 (o5 + j) cs a0 a1 a2 a3 a4 (.slice (some ⟨b, o, Option.none⟩) rs.length c) (.slice (some ⟨b8, o8, Option.none⟩) r.sets.length k8) (.slice (some ⟨b5, o5, Option.none⟩) dd.2.length k5) (d : Int) (s : Int) (j : Int) sb.signal :=
            ⟨hrowN, v50, u0, u1, uu2, x3, y1, y5, r0', r1', r2', r3', r4', r5'⟩
          have hb9 : Below W8.heap.size W8 (W8.drewN nq) := below_drewN (Below.refl _ _) nq
          clear hrowN v50 u0 u1 uu2 x1 x2 x3 y0 y1 y5 r0' r1' r2' r3' r4' r5' v0
          generalize W8.drewN nq = W9 at *
          have hs9 := hb9.size
          have DS9 := DS8.below hb9 hlt8 (by omega) (by omega) (by omega) (by omega) (by omega)
          have hbe9 := hbe8.trans (hb9.mono (by omega))
          have hbw9 := hbw8.trans (hb9.mono (by omega))
          have l1 : w.heap.size < W9.heap.size := by omega
          have l2 : wr.heap.size < W9.heap.size := by omega
          have l3 : w6.heap.size < W9.heap.size := by omega
          have l4 : w6.heap.size + 1 < W9.heap.size := by omega
          have l5 : b8 < W9.heap.size := by omega
          have l6 : b5 < W9.heap.size := by omega
          have C1 := fun W' (hb : Below W9.heap.size W9 W') => outputs_any cs r B W' (by have := hb.size; omega) (RelayC.mono _ _ _ _ _ _ (Nat.le_refl _) ((hbw9.trans (hb.mono (by omega))).mono hB) HR.out) hru
          have C3 := fun W' (hb : Below W9.heap.size W9 W') => readers_any a0 a1 a2 a3 a4 (some ⟨b, o, Option.none⟩) c B rs (d : Int) (s : Int) W' (by have := hb.size; omega) (H.out.mono (Nat.le_refl _) ((hbw9.trans (hb.mono (by omega))).mono hB)) HS.out
          generalize gone rs (d : Int) (s : Int) rs.length 0 = L at *
          have C2 : ∀ (W' : World) (A' : Option Addr) (c' base : Nat), W'.ownsRow base 9 1 (.slice A' r.outputs.length c') r.outputs.length (r.outputs.map .string) → Calls Tryd.prog 25 #[.slice A' r.outputs.length c', .string sb.signal] W' fun e w' => e = .returned (.int .i64 (idx (fun z => same z sb.signal) r.outputs)) ∧ W' = w' := fun W' A' c' base ho =>
            rindex_any A' c' W'.heap.size r.outputs sb.signal W' (Rws.of_ownStr ho HSO.out) (by omega)
          have C4 : ∀ (W' : World) (A' : Option Addr) (c' base : Nat), W'.ownsRow base 65 2 (.slice A' L.length c') L.length (pairC L) → Calls Tryd.prog 26 #[.slice A' L.length c', .int .i64 (k : Int), .int .i64 (m : Int)] W' fun e w' => e = .returned (.bool true) ∧ W' = w' := fun W' A' c' base ho =>
            reads_any A' c' W'.heap.size L k m W' (pairs_own ho rfl) (by omega) hmem
          generalize idx (fun z => same z sb.signal) r.outputs = ix at *
          have hix : decide (ix < 0) = false := by simp; omega
          have HC1 := Lib.hid C1
          have HC2 := Lib.hid C2
          have HC3 := Lib.hid C3
          have HC4 := Lib.hid C4
          obtain ⟨k1', k2', k3', k4', k5', k6', k7', k8', k9', k10, k11, k12, k13, k14⟩ := id DS9
          clear C1 C2 C3 C4 hmem DS8
          go_wp2
          go_region_held3 (fun w' => rowAt w' (w6.heap.size + 1) 0 53 = some cs ∧ w'.cell? ⟨w6.heap.size + 1, 50, Option.none⟩ = some (.slice (some ⟨b8, o8, Option.none⟩) r.sets.length k8) ∧ w'.cell? ⟨w6.heap.size, 0, Option.none⟩ = some (.int .i64 (d : Int)) ∧ w'.cell? ⟨w6.heap.size, 1, Option.none⟩ = some (.int .i64 (s : Int)) ∧ w'.cell? ⟨w6.heap.size, 2, Option.none⟩ = some (.int .i64 (j : Int)) ∧
              w'.cell? ⟨wr.heap.size, 3, Option.none⟩ = some (.string sb.signal) ∧ w'.cell? ⟨b8, o8 + s * 2 + 1, Option.none⟩ = some (.slice (some ⟨b5, o5, Option.none⟩) dd.2.length k5) ∧ w'.cell? ⟨b5, o5 + j, Option.none⟩ = some (.string sb.signal) ∧
              w'.cell? ⟨w.heap.size, 0, Option.none⟩ = some a0 ∧ w'.cell? ⟨w.heap.size, 1, Option.none⟩ = some a1 ∧ w'.cell? ⟨w.heap.size, 2, Option.none⟩ = some a2 ∧ w'.cell? ⟨w.heap.size, 3, Option.none⟩ = some a3 ∧ w'.cell? ⟨w.heap.size, 4, Option.none⟩ = some a4 ∧ w'.cell? ⟨w.heap.size, 5, Option.none⟩ = some (.slice (some ⟨b, o, Option.none⟩) rs.length c)) (first | go_keep | exact s11 | exact s13)
            (first
             | ((go_at_call 14; refine (HC1.out _ (below_drewN (Below.refl _ _) 1)).mono ?_; rintro e w11 ⟨A11, c11, rfl, -, -, ho11, hb11'⟩; have hb11 := below_same (a := W9) (B' := W9.heap.size) hb11' rfl rfl rfl rfl (Nat.le_refl _); have s11 := DS.below DS9 hb11 l1 l2 l3 l4 l5 l6))
             | ((go_at_call 25; refine (HC2.out _ _ _ _ ho11).mono ?_; rintro e w12 ⟨rfl, rfl⟩))
             | ((go_at_call 21; refine (HC3.out _ hb11).mono ?_; rintro e w13 ⟨A13, c13, rfl, -, -, ho13, hb13⟩; have hb913 := hb11.trans (hb13.mono hb11.size); have s13 := DS.below DS9 hb913 l1 l2 l3 l4 l5 l6))
             | ((go_at_call 26; refine (HC4.out _ _ _ _ ho13).mono ?_; rintro e w14 ⟨rfl, rfl⟩)))
          have hbe13 := hbe9.trans (hb913.mono (by omega))
          clear s11 s13 k1' k2' k3' k4' k5' k6' k7' k8' k9' k10 k11 k12 k13 k14 hb913 hb11' hb11 hb13 ho11 ho13 DS9
          go_wp2
          go_roundw
          case rel => exact ⟨m + 1, by omega, by go_num, hbe13⟩
          case measure => simp [intOf]; omega
        · obtain rfl : m = r0.subs.length := by omega
          go_wp2
          go_roundw
          case rel => exact ⟨k + 1, by omega, by go_num, hbel⟩
          case measure => simp [intOf]; omega
    · go_wp2
      go_ret
      exact ⟨rfl, hbw⟩
end Go.Proofs.YtfncnhgopbmabaaDoor
