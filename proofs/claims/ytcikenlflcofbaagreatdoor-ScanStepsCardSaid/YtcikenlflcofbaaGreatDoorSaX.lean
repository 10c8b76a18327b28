/-
  The reference's Same at one expression that lies twice; the law's known.
-/
import Derived.Test.YtcikenlflcofbaaGreatDoorParse
namespace Go.Proofs.YtcikenlflcofbaaGreatDoor
open Go.RowKit

def SmR (W0 : World) (n : Nat) (g : Nat) (v : Value) (wr : World) : Prop := ∃ k, k ≤ n ∧ n - k < g ∧ v = .int .i64 (k : Int) ∧ Below W0.heap.size W0 wr
theorem exAtC {d : Nat} {w : World} {S : Nat → Prop} {A : Option Addr} {n : Nat} {ks : List Ex} (h : Rw (ExC d) 4 w S A n ks) {k : Nat} (hk : k < n) :
    ∃ d' b o op m nm A' c' ys, d = d' + 1 ∧ A = some ⟨b, o, Option.none⟩ ∧ S b ∧ ks[k]? = some (.mk op m nm ys) ∧ ys.length ≤ c' ∧ c' ≤ maxLen ∧ ExP op m nm ∧ Rw (ExC d') 4 w S A' ys.length ys ∧ XB w b (o + k * 4) op m nm A' ys.length c' := by
  obtain ⟨b, o, cs, x, e, hb, hx, _, hv, hat⟩ := h.at_ hk
  obtain ⟨op, m, nm, ys⟩ := x
  cases d with
  | zero => exact hv.elim
  | succ d =>
    obtain ⟨A', c', rfl, h1, h2, h3, h4⟩ := hv
    exact ⟨d, b, o, op, m, nm, A', c', ys, rfl, e, hb, hx, h1, h2, h3, h4, XB.of hat⟩

theorem cell_lt {w : World} {p : Addr} {v : Value} (h : w.cell? p = some v) : p.block < w.heap.size := by
  rcases Nat.lt_or_ge p.block w.heap.size with q | q
  · exact q
  · simp only [World.cell?] at h
    rw [Array.getElem?_eq_none q] at h
    cases h
theorem cell_below {w w' : World} {p : Addr} {v : Value} (h : w.cell? p = some v) (hb : Below w.heap.size w w') : w'.cell? p = some v := (hb.cell (p := p) (cell_lt h)).trans h
theorem same_keep {w w' : World} {a0 a1 a2 a3 a4 a5 a6 a7 a8 a9 : Addr} {v0 v1 v2 v3 v4 v5 v6 v7 v8 v9 : Value} (hb : Below w.heap.size w w') (h0 : w.cell? a0 = some v0) (h1 : w.cell? a1 = some v1) (h2 : w.cell? a2 = some v2) (h3 : w.cell? a3 = some v3) (h4 : w.cell? a4 = some v4) (h5 : w.cell? a5 = some v5) (h6 : w.cell? a6 = some v6) (h7 : w.cell? a7 = some v7) (h8 : w.cell? a8 = some v8) (h9 : w.cell? a9 = some v9) :
    w'.cell? a0 = some v0 ∧ w'.cell? a1 = some v1 ∧ w'.cell? a2 = some v2 ∧ w'.cell? a3 = some v3 ∧ w'.cell? a4 = some v4 ∧ w'.cell? a5 = some v5 ∧ w'.cell? a6 = some v6 ∧ w'.cell? a7 = some v7 ∧ w'.cell? a8 = some v8 ∧ w'.cell? a9 = some v9 :=
  ⟨cell_below h0 hb, cell_below h1 hb, cell_below h2 hb, cell_below h3 hb, cell_below h4 hb, cell_below h5 hb, cell_below h6 hb, cell_below h7 hb, cell_below h8 hb, cell_below h9 hb⟩
end Go.Proofs.YtcikenlflcofbaaGreatDoor

/-
  What the laws share: an expression that lies in memory, and the program's functions at it.
-/
namespace Go.Proofs.YtcikenlflcofbaaGreatDoor
open Go.RowKit

/-- An expression that lies in memory. -/
structure XI (w : World) (op n : Int) (nm : List UInt8) (A : Option Addr) (c : Nat) (ks : List Ex) : Prop where
  hc : ks.length ≤ c
  hm : c ≤ maxLen
  hp : ExP op n nm
  rw : Rw ExV 4 w (fun b => b < w.heap.size) A ks.length ks
theorem XI.below {w w' : World} {op n : Int} {nm : List UInt8} {A : Option Addr} {c : Nat} {ks : List Ex} (h : XI w op n nm A c ks) (hb : Below w.heap.size w w') : XI w' op n nm A c ks :=
  ⟨h.hc, h.hm, h.hp, h.rw.mono ExV.mono (fun _ q => Nat.lt_of_lt_of_le q hb.size) (keepOn_below hb fun _ q => q)⟩
theorem XI.of_new {w w1 : World} {op n : Int} {nm : List UInt8} {A : Option Addr} {c : Nat} {ks : List Ex} (hc : ks.length ≤ c) (hm : c ≤ maxLen) (hp : ExP op n nm) (h : Rw ExV 4 w1 (New w w1) A ks.length ks) : XI w1 op n nm A c ks :=
  ⟨hc, hm, hp, h.mono ExV.mono (fun _ q => q.2) (KeepOn.refl _ _)⟩
theorem Valid_in {w : World} {op n : Int} {nm : List UInt8} {A : Option Addr} {c : Nat} {ks : List Ex} (h : XI w op n nm A c ks) : Calls Tryz.prog 79 #[.agg #[.int .i64 op, .int .i64 n, .string ⟨nm.toArray⟩, .slice A ks.length c]] w (RetB (validP (.mk op n nm ks)) w) := Valid_any op n nm A c ks w h.hc h.hm h.hp h.rw
theorem parse_in (t : List UInt8) (w : World) (hm : t.length ≤ maxLen) (hw : Lw w) : Calls Tryz.prog 48 #[.string ⟨t.toArray⟩] w fun e w' =>
    ∃ op n nm A c ks, (parseP t).1 = .mk op n nm ks ∧ e = .returned (.tuple #[.agg #[.int .i64 op, .int .i64 n, .string ⟨nm.toArray⟩, .slice A ks.length c], .int .i64 (parseP t).2.1, .int .i64 (parseP t).2.2]) ∧ XI w' op n nm A c ks ∧ Below w.heap.size w w' := by
  refine (Parse_any t w hm hw).mono ?_
  rintro e w1 ⟨op, n, nm, A, c, ks, hx, rfl, hc, hmx, hp, hr, hb1⟩
  exact ⟨op, n, nm, A, c, ks, hx, rfl, XI.of_new hc hmx hp hr, hb1⟩
theorem XV.below {w w' : World} {b : Nat} {op n : Int} {nm : List UInt8} {A : Option Addr} {k c : Nat} (h : XV w b op n nm A k c) (hb : Below w.heap.size w w') : XV w' b op n nm A k c := h.grown (grown_of_below (row := Option.none) hb) (by simp)
/-- A parsed expression is valid. -/
theorem parse_valid {t : List UInt8} (h : (parseP t).2.2 = 0) : validP (parseP t).1 = true := by
  have hF := parseP_eq t
  generalize parseP t = r at *
  unfold parseF at hF
  split at hF
  · cases hF; exact absurd h (by decide)
  · cases hT : toksP t with
    | error e =>
      rw [hT] at hF
      exfalso
      obtain ⟨p, er⟩ := e
      simp only [Option.some.injEq] at hF
      subst hF
      dsimp only at h
      subst h
      have key : ∀ f i acc, toksG t f i acc ≠ .error (p, 0) := by
        intro f
        induction f with
        | zero => intro i acc q; cases q
        | succ f ih =>
          intro i acc q
          unfold toksG at q
          split at q
          · cases q
          · rename_i c hc
            split at q
            · rename_i e' he'
              cases q
              unfold tokAt at he'
              repeat' split at he'
              all_goals first | cases he' | (injection he' with he'; injection he' with _ he'; exact absurd he' (by decide))
            · exact ih _ _ q
            · exact ih _ _ q
      exact key _ _ _ hT
    | ok l =>
      rw [hT] at hF
      simp only at hF
      split at hF
      · cases hF
      · rename_i a' e' hq
        simp only [Option.some.injEq] at hF
        subst hF
        dsimp only at h
        subst h
        exact (pLev_err hq).elim
      · injection hF with hF
        unfold endP at hF
        split at hF
        · subst hF; exact absurd (show (6 : Int) = 0 from h) (by decide)
        split at hF
        · subst hF; exact absurd (show (2 : Int) = 0 from h) (by decide)
        split at hF
        · rename_i hv; subst hF; exact hv
        · subst hF; exact absurd (show (17 : Int) = 0 from h) (by decide)
end Go.Proofs.YtcikenlflcofbaaGreatDoor
