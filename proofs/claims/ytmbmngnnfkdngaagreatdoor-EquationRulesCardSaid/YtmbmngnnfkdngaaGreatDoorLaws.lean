/-
  What the laws share: an expression that lies in memory, and the program's functions at it.
-/
import Derived.Test.YtmbmngnnfkdngaaGreatDoorKnown
namespace Go.Proofs.YtmbmngnnfkdngaaGreatDoor
open Go.RowKit

/-- An expression that lies in memory. -/
structure XI (w : World) (op n : Int) (nm : List UInt8) (A : Option Addr) (c : Nat) (ks : List Ex) : Prop where
  hc : ks.length ≤ c
  hm : c ≤ maxLen
  hp : ExP op n nm
  rw : Rw ExV 4 w (fun b => b < w.heap.size) A ks.length ks
theorem XI.below {w w' : World} {op n : Int} {nm : List UInt8} {A : Option Addr} {c : Nat} {ks : List Ex} (h : XI w op n nm A c ks) (hb : Below w.heap.size w w') : XI w' op n nm A c ks :=
  ⟨h.hc, h.hm, h.hp, h.rw.mono ExV.mono (fun _ q => Nat.lt_of_lt_of_le q hb.size) (keepOn_below hb fun _ q => q)⟩
theorem XI.of_new {w w1 : World} {op n : Int} {nm : List UInt8} {A : Option Addr} {c : Nat} {ks : List Ex} (hc : ks.length ≤ c) (hm : c ≤ maxLen) (hp : ExP op n nm) (h : Rw ExV 4 w1 (New w w1) A ks.length ks) : XI w1 op n nm A c ks :=
  ⟨hc, hm, hp, h.mono ExV.mono (fun _ q => q.2) (KeepOn.refl _ _)⟩
theorem Valid_in {w : World} {op n : Int} {nm : List UInt8} {A : Option Addr} {c : Nat} {ks : List Ex} (h : XI w op n nm A c ks) : Calls Tryz.prog 18 #[.agg #[.int .i64 op, .int .i64 n, .string ⟨nm.toArray⟩, .slice A ks.length c]] w (RetB (validP (.mk op n nm ks)) w) := Valid_any op n nm A c ks w h.hc h.hm h.hp h.rw
theorem Format_in {w : World} {op n : Int} {nm : List UInt8} {A : Option Addr} {c : Nat} {ks : List Ex} (h : XI w op n nm A c ks) (hw : Lw w) : Calls Tryz.prog 13 #[.agg #[.int .i64 op, .int .i64 n, .string ⟨nm.toArray⟩, .slice A ks.length c]] w (RetStr (fmtP (.mk op n nm ks)) w) := Format_any op n nm A c ks w h.hc h.hm h.hp h.rw hw
theorem same_in {w : World} {op n : Int} {nm : List UInt8} {A A' : Option Addr} {c c' : Nat} {ks : List Ex} (h : XI w op n nm A c ks) (h' : XI w op n nm A' c' ks) : Calls Tryz.prog 8 #[.agg #[.int .i64 op, .int .i64 n, .string ⟨nm.toArray⟩, .slice A ks.length c], .agg #[.int .i64 op, .int .i64 n, .string ⟨nm.toArray⟩, .slice A' ks.length c']] w (RetB true w) := by
  obtain ⟨d, hd⟩ := rw_ex h.rw
  have hm := h.hm
  have hc := h.hc
  unfold maxLen at hm
  exact same_eq d op n nm A A' c c' ks w (by omega) hd h'.rw
/-- What Parse returns, bundled. -/
theorem parse_in (t : List UInt8) (w : World) (hm : t.length ≤ maxLen) (hw : Lw w) : Calls Tryz.prog 6 #[.string ⟨t.toArray⟩] w fun e w' =>
    ∃ op n nm A c ks, (parseP t).1 = .mk op n nm ks ∧ e = .returned (.tuple #[.agg #[.int .i64 op, .int .i64 n, .string ⟨nm.toArray⟩, .slice A ks.length c], .int .i64 (parseP t).2.1, .int .i64 (parseP t).2.2]) ∧ XI w' op n nm A c ks ∧ Below w.heap.size w w' := by
  refine (Parse_any t w hm hw).mono ?_
  rintro e w1 ⟨op, n, nm, A, c, ks, hx, rfl, hc, hmx, hp, hr, hb1⟩
  exact ⟨op, n, nm, A, c, ks, hx, rfl, XI.of_new hc hmx hp hr, hb1⟩
theorem XV.below {w w' : World} {b : Nat} {op n : Int} {nm : List UInt8} {A : Option Addr} {k c : Nat} (h : XV w b op n nm A k c) (hb : Below w.heap.size w w') : XV w' b op n nm A k c := h.grown (grown_of_below (row := Option.none) hb) (by simp)
/-- A parsed expression is valid. -/
theorem parse_valid {t : List UInt8} (h : (parseP t).2.2 = 0) : validP (parseP t).1 = true := by
  have hF := parseP_eq t
  generalize parseP t = r at *
  unfold parseF at hF
  split at hF
  · cases hF; exact absurd h (by decide)
  · cases hT : toksP t with
    | error e =>
      rw [hT] at hF
      exfalso
      obtain ⟨p, er⟩ := e
      simp only [Option.some.injEq] at hF
      subst hF
      dsimp only at h
      subst h
      have key : ∀ f i acc, toksG t f i acc ≠ .error (p, 0) := by
        intro f
        induction f with
        | zero => intro i acc q; cases q
        | succ f ih =>
          intro i acc q
          unfold toksG at q
          split at q
          · cases q
          · rename_i c hc
            split at q
            · rename_i e' he'
              cases q
              unfold tokAt at he'
              repeat' split at he'
              all_goals first | cases he' | (injection he' with he'; injection he' with _ he'; exact absurd he' (by decide))
            · exact ih _ _ q
            · exact ih _ _ q
      exact key _ _ _ hT
    | ok l =>
      rw [hT] at hF
      simp only at hF
      split at hF
      · cases hF
      · rename_i a' e' hq
        simp only [Option.some.injEq] at hF
        subst hF
        dsimp only at h
        subst h
        exact (pLev_err hq).elim
      · injection hF with hF
        unfold endP at hF
        split at hF
        · subst hF; exact absurd (show (6 : Int) = 0 from h) (by decide)
        split at hF
        · subst hF; exact absurd (show (2 : Int) = 0 from h) (by decide)
        split at hF
        · rename_i hv; subst hF; exact hv
        · subst hF; exact absurd (show (17 : Int) = 0 from h) (by decide)
end Go.Proofs.YtmbmngnnfkdngaaGreatDoor
