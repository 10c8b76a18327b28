/-
  The reference's Same at one expression that lies twice; the law's known.
-/
import Derived.Test.YtcikenlflcofbaaDoorParse
namespace Go.Proofs.YtcikenlflcofbaaDoor
open Go.RowKit

def SmR (W0 : World) (n : Nat) (g : Nat) (v : Value) (wr : World) : Prop := ∃ k, k ≤ n ∧ n - k < g ∧ v = .int .i64 (k : Int) ∧ Below W0.heap.size W0 wr
theorem exAtC {d : Nat} {w : World} {S : Nat → Prop} {A : Option Addr} {n : Nat} {ks : List Ex} (h : Rw (ExC d) 4 w S A n ks) {k : Nat} (hk : k < n) :
    ∃ d' b o op m nm A' c' ys, d = d' + 1 ∧ A = some ⟨b, o, Option.none⟩ ∧ S b ∧ ks[k]? = some (.mk op m nm ys) ∧ ys.length ≤ c' ∧ c' ≤ maxLen ∧ ExP op m nm ∧ Rw (ExC d') 4 w S A' ys.length ys ∧ XB w b (o + k * 4) op m nm A' ys.length c' := by
  obtain ⟨b, o, cs, x, e, hb, hx, _, hv, hat⟩ := h.at_ hk
  obtain ⟨op, m, nm, ys⟩ := x
  cases d with
  | zero => exact hv.elim
  | succ d =>
    obtain ⟨A', c', rfl, h1, h2, h3, h4⟩ := hv
    exact ⟨d, b, o, op, m, nm, A', c', ys, rfl, e, hb, hx, h1, h2, h3, h4, XB.of hat⟩

theorem cell_lt {w : World} {p : Addr} {v : Value} (h : w.cell? p = some v) : p.block < w.heap.size := by
  rcases Nat.lt_or_ge p.block w.heap.size with q | q
  · exact q
  · simp only [World.cell?] at h
    rw [Array.getElem?_eq_none q] at h
    cases h
theorem cell_below {w w' : World} {p : Addr} {v : Value} (h : w.cell? p = some v) (hb : Below w.heap.size w w') : w'.cell? p = some v := (hb.cell (p := p) (cell_lt h)).trans h
theorem same_keep {w w' : World} {a0 a1 a2 a3 a4 a5 a6 a7 a8 a9 : Addr} {v0 v1 v2 v3 v4 v5 v6 v7 v8 v9 : Value} (hb : Below w.heap.size w w') (h0 : w.cell? a0 = some v0) (h1 : w.cell? a1 = some v1) (h2 : w.cell? a2 = some v2) (h3 : w.cell? a3 = some v3) (h4 : w.cell? a4 = some v4) (h5 : w.cell? a5 = some v5) (h6 : w.cell? a6 = some v6) (h7 : w.cell? a7 = some v7) (h8 : w.cell? a8 = some v8) (h9 : w.cell? a9 = some v9) :
    w'.cell? a0 = some v0 ∧ w'.cell? a1 = some v1 ∧ w'.cell? a2 = some v2 ∧ w'.cell? a3 = some v3 ∧ w'.cell? a4 = some v4 ∧ w'.cell? a5 = some v5 ∧ w'.cell? a6 = some v6 ∧ w'.cell? a7 = some v7 ∧ w'.cell? a8 = some v8 ∧ w'.cell? a9 = some v9 :=
  ⟨cell_below h0 hb, cell_below h1 hb, cell_below h2 hb, cell_below h3 hb, cell_below h4 hb, cell_below h5 hb, cell_below h6 hb, cell_below h7 hb, cell_below h8 hb, cell_below h9 hb⟩

set_option maxRecDepth 100000 in
set_option maxHeartbeats 4000000 in
theorem same_eq : ∀ (d : Nat) (op n : Int) (nm : List UInt8) (A A' : Option Addr) (c c' : Nat) (ks : List Ex) (w : World), ks.length ≤ 9223372036854775807 → Rw (ExC d) 4 w (fun b => b < w.heap.size) A ks.length ks → Rw ExV 4 w (fun b => b < w.heap.size) A' ks.length ks →
    Calls Tryd.prog 18 #[exV op n nm A ks.length c, exV op n nm A' ks.length c'] w (RetB true w) := by
  intro d
  induction d with
  | zero =>
    intro op n nm A A' c c' ks w hl hr hr'
    have h0 : ks.length = 0 := by
      rcases Nat.eq_zero_or_pos ks.length with h | h
      · exact h
      · obtain ⟨d', b, o, op, m, nm, A', c', ys, hd, -⟩ := exAtC hr h
        omega
    obtain rfl : ks = [] := List.length_eq_zero_iff.1 h0
    clear hr hr' h0 hl
    unfold exV
    have hbel := ((Below.refl _ w).alloc (Nat.le_refl _) (Obj.cells #[.int .i64 op, .int .i64 n, .string ⟨nm.toArray⟩, .slice A 0 c] 49)).alloc (by rw [World.size_alloc]; omega) (Obj.cells #[.int .i64 op, .int .i64 n, .string ⟨nm.toArray⟩, .slice A' 0 c'] 49)
    have HB := Lib.hid hbel
    clear hbel
    have d1 : (op != op) = false := by simp
    have d2 : (n != n) = false := by simp
    have d3 : (nm != nm) = false := by simp
    show Calls _ _ #[.agg #[_, _, _, .slice A 0 c], .agg #[_, _, _, .slice A' 0 c']] _ _
    go_enter Tryd.func18, Tryd.ntmps18
    go_wp2
    go_loopg [37] 1 (fun g v wr => SmR ((w.alloc (Obj.cells #[.int .i64 op, .int .i64 n, .string ⟨nm.toArray⟩, .slice A 0 c] 49)).alloc (Obj.cells #[.int .i64 op, .int .i64 n, .string ⟨nm.toArray⟩, .slice A' 0 c'] 49)) 0 g v wr)
    case atStart => exact ⟨0, Nat.le_refl _, by omega, rfl, Below.refl _ _⟩
    case round =>
      obtain ⟨k, hk, hg, rfl, hb⟩ := hrel
      obtain rfl : k = 0 := by omega
      go_wp2
      go_ret
      exact ⟨rfl, HB.out.trans (hb.mono (by rw [World.size_alloc, World.size_alloc]; omega))⟩
  | succ d ih =>
    intro op n nm A A' c c' ks w hl hr hr'
    have HIH := Lib.hid ih
    have HR := Lib.hid hr
    have HR' := Lib.hid hr'
    clear ih hr hr'
    unfold exV
    have hbel := ((Below.refl _ w).alloc (Nat.le_refl _) (Obj.cells #[.int .i64 op, .int .i64 n, .string ⟨nm.toArray⟩, .slice A ks.length c] 49)).alloc (by rw [World.size_alloc]; omega) (Obj.cells #[.int .i64 op, .int .i64 n, .string ⟨nm.toArray⟩, .slice A' ks.length c'] 49)
    have HB := Lib.hid hbel
    have XA := (XV.new w op n nm A ks.length c).grown (World.grownBy_alloc (w.alloc (Obj.cells #[.int .i64 op, .int .i64 n, .string ⟨nm.toArray⟩, .slice A ks.length c] 49)) (Obj.cells #[.int .i64 op, .int .i64 n, .string ⟨nm.toArray⟩, .slice A' ks.length c'] 49) Option.none) (by simp)
    have XC := XV.new (w.alloc (Obj.cells #[.int .i64 op, .int .i64 n, .string ⟨nm.toArray⟩, .slice A ks.length c] 49)) op n nm A' ks.length c'
    rw [World.size_alloc] at XC
    have HXA := Lib.hid XA
    have HXC := Lib.hid XC
    clear hbel XA XC
    have d1 : (op != op) = false := by simp
    have d2 : (n != n) = false := by simp
    have d3 : (nm != nm) = false := by simp
    have d4 : (((ks.length : Nat) : Int) != (ks.length : Int)) = false := by simp
    go_enter Tryd.func18, Tryd.ntmps18
    go_wp2
    have hW0 : ((w.alloc (Obj.cells #[.int .i64 op, .int .i64 n, .string ⟨nm.toArray⟩, .slice A ks.length c] 49)).alloc (Obj.cells #[.int .i64 op, .int .i64 n, .string ⟨nm.toArray⟩, .slice A' ks.length c'] 49)).heap.size = w.heap.size + 2 := by rw [World.size_alloc, World.size_alloc]
    generalize (w.alloc (Obj.cells #[.int .i64 op, .int .i64 n, .string ⟨nm.toArray⟩, .slice A ks.length c] 49)).alloc (Obj.cells #[.int .i64 op, .int .i64 n, .string ⟨nm.toArray⟩, .slice A' ks.length c'] 49) = W0 at *
    have HW0 := Lib.hid hW0
    clear hW0
    go_loopg [37] (ks.length + 1) (fun g v wr => SmR W0 ks.length g v wr)
    case atStart => exact ⟨0, Nat.zero_le _, by omega, rfl, Below.refl _ _⟩
    case round =>
      obtain ⟨k, hk, hg, rfl, hb⟩ := hrel
      have hw0 := HW0.out
      have hsz := hb.size
      have hbw := HB.out.trans (hb.mono (by omega))
      by_cases hlt : k < ks.length
      case neg =>
        have HBW := Lib.hid hbw
        clear hb hbw
        go_wp2
        go_ret
        exact ⟨rfl, HBW.out⟩
      obtain ⟨d', b, o, op2, n2, nm2, A2, c2, ys, hd', hA, hSb, hky, hc2, hm2, hp2, hr2, hxb⟩ := exAtC (HR.out.mono (ExC.mono _) (fun b q => q) (keepOn_below hbw fun b q => q)) hlt
      obtain ⟨b', o', op3, n3, nm3, A3, c3, zs, hA', hSb', hkz, hc3, hm3, hp3, hr3, hxc⟩ := exAt (HR'.out.mono ExV.mono (fun b q => q) (keepOn_below hbw fun b q => q)) hlt
      obtain rfl : d = d' := by omega
      rw [hky] at hkz
      injection hkz with hkz
      injection hkz with q1 q2 q3 q4
      subst q1
      subst q2
      subst q3
      subst q4
      subst hA
      subst hA'
      obtain ⟨y0, y1, y2, y3⟩ := hxb
      obtain ⟨u0, u1, u2, u3⟩ := hxc
      obtain ⟨-, -, -, p3, -, -, -, -⟩ := (HXA.out.grown (grown_of_below (row := Option.none) hb) (by simp)).cells
      obtain ⟨-, -, -, r3, -, -, -, -⟩ := (HXC.out.grown (grown_of_below (row := Option.none) hb) (by simp)).cells
      have HRA := Lib.hid (HR.out.mono (ExC.mono _) (fun b q => q) (keepOn_below hbw fun b q => q))
      have HR2 := Lib.hid hr2
      have HR3 := Lib.hid hr3
      have hl2 : ys.length ≤ 9223372036854775807 := by unfold maxLen at hm2; omega
      have C1 := HIH.out op2 n2 nm2 A2 A3 c2 c3 ys wr.drew hl2 (hr2.mono (ExC.mono _) (fun b q => (by show b < wr.heap.size; omega)) (keepOn_below (below_drew (Below.refl wr.heap.size wr)) fun b q => (by omega : b < wr.heap.size))) (hr3.mono ExV.mono (fun b q => (by show b < wr.heap.size; omega)) (keepOn_below (below_drew (Below.refl wr.heap.size wr)) fun b q => (by omega : b < wr.heap.size)))
      unfold exV at C1
      have HC1 := Lib.hid C1
      have HBB := Lib.hid hb
      clear hr2 hr3 C1 hbw hp2 hp3 hky hb HRA
      unfold maxLen at hm2 hm3
      have i1 : (k : Int) < (ks.length : Int) := by omega
      go_wp2_with fail
      go_wp2
      go_region_held3 (fun w' => w'.cell? ⟨w.heap.size, 3, Option.none⟩ = some (.slice (some ⟨b, o, Option.none⟩) ks.length c) ∧ w'.cell? ⟨w.heap.size + 1, 3, Option.none⟩ = some (.slice (some ⟨b', o', Option.none⟩) ks.length c') ∧ w'.cell? ⟨b, o + k * 4, Option.none⟩ = some (.int .i64 op2) ∧ w'.cell? ⟨b, o + k * 4 + 1, Option.none⟩ = some (.int .i64 n2) ∧ w'.cell? ⟨b, o + k * 4 + 2, Option.none⟩ = some (.string ⟨nm2.toArray⟩) ∧ w'.cell? ⟨b, o + k * 4 + 3, Option.none⟩ = some (.slice A2 ys.length c2) ∧ w'.cell? ⟨b', o' + k * 4, Option.none⟩ = some (.int .i64 op2) ∧ w'.cell? ⟨b', o' + k * 4 + 1, Option.none⟩ = some (.int .i64 n2) ∧ w'.cell? ⟨b', o' + k * 4 + 2, Option.none⟩ = some (.string ⟨nm2.toArray⟩) ∧ w'.cell? ⟨b', o' + k * 4 + 3, Option.none⟩ = some (.slice A3 ys.length c3)) (first | go_keep | exact s5)
        (first
         | ((go_at_call 18; refine HC1.out.mono ?_; rintro e w5 ⟨rfl, hb5⟩; have hb5' := below_same (a := wr) (B' := wr.heap.size) hb5 rfl rfl rfl rfl (Nat.le_refl _); have s5 := same_keep hb5' p3 r3 y0 y1 y2 y3 u0 u1 u2 u3)))
      go_wp2
      go_roundg (ks.length - k)
      case measure => omega
      case rel => exact ⟨k + 1, by omega, by omega, by go_num, HBB.out.trans (hb5'.mono (by omega))⟩
end Go.Proofs.YtcikenlflcofbaaDoor

/-
  What the laws share: an expression that lies in memory, and the program's functions at it.
-/
namespace Go.Proofs.YtcikenlflcofbaaDoor
open Go.RowKit

/-- An expression that lies in memory. -/
structure XI (w : World) (op n : Int) (nm : List UInt8) (A : Option Addr) (c : Nat) (ks : List Ex) : Prop where
  hc : ks.length ≤ c
  hm : c ≤ maxLen
  hp : ExP op n nm
  rw : Rw ExV 4 w (fun b => b < w.heap.size) A ks.length ks
theorem XI.below {w w' : World} {op n : Int} {nm : List UInt8} {A : Option Addr} {c : Nat} {ks : List Ex} (h : XI w op n nm A c ks) (hb : Below w.heap.size w w') : XI w' op n nm A c ks :=
  ⟨h.hc, h.hm, h.hp, h.rw.mono ExV.mono (fun _ q => Nat.lt_of_lt_of_le q hb.size) (keepOn_below hb fun _ q => q)⟩
theorem XI.of_new {w w1 : World} {op n : Int} {nm : List UInt8} {A : Option Addr} {c : Nat} {ks : List Ex} (hc : ks.length ≤ c) (hm : c ≤ maxLen) (hp : ExP op n nm) (h : Rw ExV 4 w1 (New w w1) A ks.length ks) : XI w1 op n nm A c ks :=
  ⟨hc, hm, hp, h.mono ExV.mono (fun _ q => q.2) (KeepOn.refl _ _)⟩
theorem Valid_in {w : World} {op n : Int} {nm : List UInt8} {A : Option Addr} {c : Nat} {ks : List Ex} (h : XI w op n nm A c ks) : Calls Tryd.prog 35 #[.agg #[.int .i64 op, .int .i64 n, .string ⟨nm.toArray⟩, .slice A ks.length c]] w (RetB (validP (.mk op n nm ks)) w) := Valid_any op n nm A c ks w h.hc h.hm h.hp h.rw
theorem same_in {w : World} {op n : Int} {nm : List UInt8} {A A' : Option Addr} {c c' : Nat} {ks : List Ex} (h : XI w op n nm A c ks) (h' : XI w op n nm A' c' ks) : Calls Tryd.prog 18 #[.agg #[.int .i64 op, .int .i64 n, .string ⟨nm.toArray⟩, .slice A ks.length c], .agg #[.int .i64 op, .int .i64 n, .string ⟨nm.toArray⟩, .slice A' ks.length c']] w (RetB true w) := by
  obtain ⟨d, hd⟩ := rw_ex h.rw
  have hm := h.hm
  have hc := h.hc
  unfold maxLen at hm
  exact same_eq d op n nm A A' c c' ks w (by omega) hd h'.rw
/-- What Parse returns, bundled. -/
theorem parse_in (t : List UInt8) (w : World) (hm : t.length ≤ maxLen) (hw : Lw w) : Calls Tryd.prog 38 #[.string ⟨t.toArray⟩] w fun e w' =>
    ∃ op n nm A c ks, (parseP t).1 = .mk op n nm ks ∧ e = .returned (.tuple #[.agg #[.int .i64 op, .int .i64 n, .string ⟨nm.toArray⟩, .slice A ks.length c], .int .i64 (parseP t).2.1, .int .i64 (parseP t).2.2]) ∧ XI w' op n nm A c ks ∧ Below w.heap.size w w' := by
  refine (Parse_any t w hm hw).mono ?_
  rintro e w1 ⟨op, n, nm, A, c, ks, hx, rfl, hc, hmx, hp, hr, hb1⟩
  exact ⟨op, n, nm, A, c, ks, hx, rfl, XI.of_new hc hmx hp hr, hb1⟩
theorem XV.below {w w' : World} {b : Nat} {op n : Int} {nm : List UInt8} {A : Option Addr} {k c : Nat} (h : XV w b op n nm A k c) (hb : Below w.heap.size w w') : XV w' b op n nm A k c := h.grown (grown_of_below (row := Option.none) hb) (by simp)
/-- A parsed expression is valid. -/
theorem parse_valid {t : List UInt8} (h : (parseP t).2.2 = 0) : validP (parseP t).1 = true := by
  have hF := parseP_eq t
  generalize parseP t = r at *
  unfold parseF at hF
  split at hF
  · cases hF; exact absurd h (by decide)
  · cases hT : toksP t with
    | error e =>
      rw [hT] at hF
      exfalso
      obtain ⟨p, er⟩ := e
      simp only [Option.some.injEq] at hF
      subst hF
      dsimp only at h
      subst h
      have key : ∀ f i acc, toksG t f i acc ≠ .error (p, 0) := by
        intro f
        induction f with
        | zero => intro i acc q; cases q
        | succ f ih =>
          intro i acc q
          unfold toksG at q
          split at q
          · cases q
          · rename_i c hc
            split at q
            · rename_i e' he'
              cases q
              unfold tokAt at he'
              repeat' split at he'
              all_goals first | cases he' | (injection he' with he'; injection he' with _ he'; exact absurd he' (by decide))
            · exact ih _ _ q
            · exact ih _ _ q
      exact key _ _ _ hT
    | ok l =>
      rw [hT] at hF
      simp only at hF
      split at hF
      · cases hF
      · rename_i a' e' hq
        simp only [Option.some.injEq] at hF
        subst hF
        dsimp only at h
        subst h
        exact (pLev_err hq).elim
      · injection hF with hF
        unfold endP at hF
        split at hF
        · subst hF; exact absurd (show (6 : Int) = 0 from h) (by decide)
        split at hF
        · subst hF; exact absurd (show (2 : Int) = 0 from h) (by decide)
        split at hF
        · rename_i hv; subst hF; exact hv
        · subst hF; exact absurd (show (17 : Int) = 0 from h) (by decide)
end Go.Proofs.YtcikenlflcofbaaDoor
