/-
  Scans of a verified program keep the memory fit. Plain words. No program is named here.
-/
import Derived.Test.YtcikenlflcofbaaGreatDoorExcP
import Derived.Test.YtcikenlflcofbaaGreatDoorMacC
namespace Go.Proofs.YtcikenlflcofbaaGreatDoor

theorem fold_ok {p : Pg} {inp : List Int} (hi : InpOk p inp) : ∀ {l : List Ins} {i : Int} {v : Vs} {most m : Int} {s : Xs}, runG p l i v most = (0, m, 0) → StOk p v s → ∃ v', StOk p v' (l.foldl (exP p inp) s)
  | [], _, v, _, _, s, _, hs => ⟨v, hs⟩
  | c :: l, i, v, most, m, s, h, hs => by
    obtain ⟨v', hst, hr⟩ := run_next h
    rw [List.foldl_cons]
    exact fold_ok hi hr (ex_ok hi hst hs)
theorem ver_run {p : Pg} (hv : (verP p).2.2 = 0) : ∃ m, runG p p.code 0 ⟨[], 0, 0⟩ 0 = (0, m, 0) := by
  unfold verP at hv
  by_cases hh : hdrP p = 0
  · rw [if_neg (by simpa using hh)] at hv
    obtain ⟨a, b, c, hq⟩ : ∃ a b c, runG p p.code 0 ⟨[], 0, 0⟩ 0 = (a, b, c) := ⟨_, _, _, rfl⟩
    rw [hq] at hv
    dsimp only at hv
    subst hv
    exact ⟨b, run_zero hq⟩
  · rw [if_pos hh] at hv
    exact absurd hv hh
def MemOk (p : Pg) (m : Mm) : Prop := StOk p ⟨[], 0, 0⟩ ⟨[], m.vals, m.cells⟩
theorem scan_ok {p : Pg} {inp : List Int} {m : Mm} (hv : (verP p).2.2 = 0) (hi : InpOk p inp) (h : MemOk p m) : MemOk p (scanP p m inp) := by
  obtain ⟨z, hr⟩ := ver_run hv
  obtain ⟨v', hs⟩ := fold_ok hi hr h
  exact ⟨TyL.nil, hs.vl, hs.vb, hs.cl, hs.cb⟩
/-- A verified program's cells have numbers from 0 on. -/
theorem cells_pos {p : Pg} : ∀ {l : List Ins} {i : Int} {v : Vs} {most m : Int}, runG p l i v most = (0, m, 0) → (∀ (j : Nat) (c : Cl), j < v.used → p.cells[j]? = some c → 0 ≤ c.n) → ∀ (j : Nat) (c : Cl), p.cells[j]? = some c → 0 ≤ c.n
  | [], i, v, most, m, h, hp, j, c, hj => by
    rw [runG_nil] at h
    split at h
    · injection h with _ h; injection h with _ h; exact absurd h (by decide)
    split at h
    · injection h with _ h; injection h with _ h; exact absurd h (by decide)
    rename_i h2
    exact hp j c (by have := (List.getElem?_eq_some_iff.1 hj).1; omega) hj
  | x :: l, i, v, most, m, h, hp, j, c, hj => by
    obtain ⟨v', hst, hr⟩ := run_next h
    refine cells_pos hr (fun j' c' hlt hc => ?_) j c hj
    obtain ⟨-, harg, -, k, -, hv⟩ := step_inv hst
    rcases hv with ⟨-, -, rfl⟩ | ⟨h32, -, rfl⟩
    · exact hp j' c' hlt hc
    · dsimp only at hlt
      cases hkb : keptB x.op with
      | false => rw [hkb] at hlt; exact hp j' c' hlt hc
      | true =>
        rw [hkb, if_pos rfl] at hlt
        rcases Nat.lt_succ_iff_lt_or_eq.1 hlt with q | rfl
        · exact hp j' c' q hc
        · have h17 := kept_iff.1 hkb
          unfold argP at harg
          rw [if_neg (by omega), if_neg (by omega), if_neg (by omega), if_neg (by omega), if_neg (by omega), if_neg (by rw [hkb]; decide), hc] at harg
          simp only [Bool.and_eq_true, decide_eq_true_eq] at harg
          have := harg.2
          unfold cellB at this
          simp only [decide_eq_true_eq] at this
          exact this.2.1
theorem new_ok {p : Pg} (hv : (verP p).2.2 = 0) : MemOk p (newP p) := by
  obtain ⟨z, hr⟩ := ver_run hv
  have hc := cells_pos hr (fun j c hj _ => absurd hj (Nat.not_lt_zero _))
  refine ⟨TyL.nil, List.length_replicate .., fun x hx => .inl (List.eq_of_mem_replicate hx), List.length_replicate .., fun i l c h1 h2 => ?_⟩
  have hcc : c = ⟨false, 0⟩ := List.eq_of_mem_replicate (List.mem_of_getElem? h2)
  subst hcc
  rw [poss_parts]
  refine ⟨fun _ => rfl, Int.le_refl _, ?_⟩
  have := hc i l h1
  unfold capP
  split
  · dsimp only; omega
  split
  · exact this
  split <;> decide
theorem read_inp {p : Pg} {inp : List Int} (h : readB p inp = true) : InpOk p inp := by
  unfold readB at h
  rw [Bool.and_eq_true, decide_eq_true_eq] at h
  refine ⟨h.1, fun i s x hs hx hk => ?_⟩
  have := List.all_eq_true.1 h.2 (s, x) (List.mem_of_getElem? (by rw [List.getElem?_zip_eq_some]; exact ⟨hs, hx⟩))
  simp [hk, bitB] at this
  exact this
theorem runL_cons (p : Pg) (x : List Int) (xs : List (List Int)) (m : Mm) (l : List (List Int)) : runL p (x :: xs) m l = if readB p x = false then ([], 1) else runL p xs (scanP p m x) (l ++ [(scanP p m x).vals]) := rfl
end Go.Proofs.YtcikenlflcofbaaGreatDoor
