/-
  The reader's levels joined: every part of the reader does what its plain word says.
-/
import Derived.Test.YtmbmngnnfkdngaaGreatDoorRdM
import Derived.Test.YtmbmngnnfkdngaaGreatDoorRdV
import Derived.Test.YtmbmngnnfkdngaaGreatDoorToks
import Derived.Test.YtmbmngnnfkdngaaGreatDoorRdr
import Derived.Test.YtmbmngnnfkdngaaGreatDoorRdP
import Derived.Test.YtmbmngnnfkdngaaGreatDoorSmP
import Derived.Test.YtmbmngnnfkdngaaGreatDoorRV
import Derived.Test.YtmbmngnnfkdngaaGreatDoorGb
import Derived.Test.YtmbmngnnfkdngaaGreatDoorGa
import Derived.Test.YtmbmngnnfkdngaaGreatDoorBase
import Derived.Test.YtmbmngnnfkdngaaGreatDoorLaws
import Derived.Test.YtmbmngnnfkdngaaGreatDoorTable
namespace Go.Proofs.YtmbmngnnfkdngaaGreatDoor
open Go.RowKit

/-- A part that hands another part's expression on through its own result. -/
theorem hand_r {rb : Nat} {A : Option Addr} {c : Nat} {l : List Tok} {w w1 w2 : World} {x : Ex} {s : RSt} {e' : Ending} (hb : Below w.heap.size w w1) (hrl : rb < w.heap.size) (hw : w.heap.size < w1.heap.size) (hZ : ZB w1 w.heap.size) (h : RetXR rb A c l x s w1 e' w2) :
    ∃ op n nm A1 c1 ks, x = .mk op n nm ks ∧ e' = .returned (exV op n nm A1 ks.length c1) ∧ ZB w2 w.heap.size ∧ w.heap.size < w2.heap.size ∧
      RetXR rb A c l x s w (.returned (exV op n nm A1 ks.length c1)) (set4 w2 w.heap.size (.int .i64 op) (.int .i64 n) (.string ⟨nm.toArray⟩) (.slice A1 ks.length c1)) := by
  obtain ⟨op, n, nm, A1, c1, ks, rfl, rfl, hc1, hm1, hp1, hr1, hl1, hi1⟩ := h
  have hsz := hl1.1.size
  refine ⟨op, n, nm, A1, c1, ks, rfl, rfl, hZ.leftR hl1 (by omega), by omega, ?_⟩
  exact RetXR.put hc1 hm1 hp1 hr1 (fun b hb => ⟨by have := hb.1; omega, hb.2⟩) (LeftR.pre hb hl1) hi1 hrl

set_option maxRecDepth 100000 in
set_option maxHeartbeats 4000000 in
theorem lev_not {rb : Nat} {A : Option Addr} {c : Nat} {t : List UInt8} {l : List Tok} {e : RSt → Option (Ex × RSt)} (hP : PartR rb A c t l 62 e) : PartL rb A c t l 3 e := by
  intro s w y s' hs hr
  have hb0 := box_below w (Obj.cells #[.int .i64 0, .int .i64 0, .string ⟨#[]⟩, .slice Option.none 0 0] 25)
  have hrl := hs.ltp
  have HC := Lib.hid (hP _ _ _ _ (hs.below hb0) hr)
  have HH := Lib.hid (fun e' w2 (h : RetXR rb A c l y s' _ e' w2) => hand_r hb0 hrl (by rw [World.size_alloc]; omega) (ZB.new w) h)
  clear hP hs hr hb0
  go_enter Tryz.func42, Tryz.ntmps42
  go_wp2_with fail
  refine HC.out.mono ?_
  intro e' w2 h
  obtain ⟨op, n, nm, A1, c1, ks, rfl, rfl, hZ, hlt, hret⟩ := HH.out e' w2 h
  unfold exV
  obtain ⟨q0, q1, q2, q3, z0, z1, z2, z3⟩ := XV.cells hZ
  have HPT := Lib.hid (put_cells hZ op n nm A1 ks.length c1)
  have HRET := Lib.hid hret
  clear h hret hZ HC HH
  go_wp2
  change bodyPost _ _ _ _ _ (set4 w2 w.heap.size (.int .i64 op) (.int .i64 n) (.string ⟨nm.toArray⟩) (.slice A1 ks.length c1))
  obtain ⟨r0, r1, r2, r3, -, -, -, -⟩ := HPT.out.cells
  exact bodyPost_ret (v := exV op n nm A1 ks.length c1) (by simp [results, Tryz.results42, go_sem, exV, r0, r1, r2, r3]) rfl HRET.out
set_option maxRecDepth 100000 in
set_option maxHeartbeats 4000000 in
theorem lev_prim {rb : Nat} {A : Option Addr} {c : Nat} {t : List UInt8} {l : List Tok} {e : RSt → Option (Ex × RSt)} (hP : PartR rb A c t l 63 e) : PartL rb A c t l 5 e := by
  intro s w y s' hs hr
  have hb0 := box_below w (Obj.cells #[.int .i64 0, .int .i64 0, .string ⟨#[]⟩, .slice Option.none 0 0] 25)
  have hrl := hs.ltp
  have HC := Lib.hid (hP _ _ _ _ (hs.below hb0) hr)
  have HH := Lib.hid (fun e' w2 (h : RetXR rb A c l y s' _ e' w2) => hand_r hb0 hrl (by rw [World.size_alloc]; omega) (ZB.new w) h)
  clear hP hs hr hb0
  go_enter Tryz.func42, Tryz.ntmps42
  go_wp2_with fail
  refine HC.out.mono ?_
  intro e' w2 h
  obtain ⟨op, n, nm, A1, c1, ks, rfl, rfl, hZ, hlt, hret⟩ := HH.out e' w2 h
  unfold exV
  obtain ⟨q0, q1, q2, q3, z0, z1, z2, z3⟩ := XV.cells hZ
  have HPT := Lib.hid (put_cells hZ op n nm A1 ks.length c1)
  have HRET := Lib.hid hret
  clear h hret hZ HC HH
  go_wp2
  change bodyPost _ _ _ _ _ (set4 w2 w.heap.size (.int .i64 op) (.int .i64 n) (.string ⟨nm.toArray⟩) (.slice A1 ks.length c1))
  obtain ⟨r0, r1, r2, r3, -, -, -, -⟩ := HPT.out.cells
  exact bodyPost_ret (v := exV op n nm A1 ks.length c1) (by simp [results, Tryz.results42, go_sem, exV, r0, r1, r2, r3]) rfl HRET.out
set_option maxRecDepth 100000 in
set_option maxHeartbeats 4000000 in
theorem expr_r {rb : Nat} {A : Option Addr} {c : Nat} {t : List UInt8} {l : List Tok} {e : RSt → Option (Ex × RSt)} (hP : PartL rb A c t l 0 e) : PartR rb A c t l 20 e := by
  intro s w y s' hs hr
  have hb0 := box_below w (Obj.cells #[.int .i64 0, .int .i64 0, .string ⟨#[]⟩, .slice Option.none 0 0] 25)
  have hrl := hs.ltp
  have HC := Lib.hid (hP _ _ _ _ (hs.below hb0) hr)
  have HH := Lib.hid (fun e' w2 (h : RetXR rb A c l y s' _ e' w2) => hand_r hb0 hrl (by rw [World.size_alloc]; omega) (ZB.new w) h)
  clear hP hs hr hb0
  go_enter Tryz.func20, Tryz.ntmps20
  go_wp2_with fail
  refine HC.out.mono ?_
  intro e' w2 h
  obtain ⟨op, n, nm, A1, c1, ks, rfl, rfl, hZ, hlt, hret⟩ := HH.out e' w2 h
  unfold exV
  obtain ⟨q0, q1, q2, q3, z0, z1, z2, z3⟩ := XV.cells hZ
  have HPT := Lib.hid (put_cells hZ op n nm A1 ks.length c1)
  have HRET := Lib.hid hret
  clear h hret hZ HC HH
  go_wp2
  change bodyPost _ _ _ _ _ (set4 w2 w.heap.size (.int .i64 op) (.int .i64 n) (.string ⟨nm.toArray⟩) (.slice A1 ks.length c1))
  obtain ⟨r0, r1, r2, r3, -, -, -, -⟩ := HPT.out.cells
  exact bodyPost_ret (v := exV op n nm A1 ks.length c1) (by simp [results, Tryz.results20, go_sem, exV, r0, r1, r2, r3]) rfl HRET.out

/-- All parts, f rounds deep. -/
structure AllR (rb : Nat) (A : Option Addr) (c : Nat) (t : List UInt8) (l : List Tok) (f : Nat) : Prop where
  ex : PartL rb A c t l 0 (rLev l f .expr)
  xo : PartL rb A c t l 1 (rLev l f .xor)
  cj : PartL rb A c t l 2 (rLev l f .conj)
  ng : PartR rb A c t l 62 (rLev l f .neg)
  sm : PartL rb A c t l 4 (rLev l f .sum)
  pr : PartR rb A c t l 63 (rLev l f .prim)
theorem allR {rb : Nat} {A : Option Addr} {c : Nat} {t : List UInt8} {l : List Tok} : ∀ f, AllR rb A c t l f
  | 0 => by refine ⟨?_, ?_, ?_, ?_, ?_, ?_⟩ <;> exact fun _ _ _ _ _ h => by cases h
  | f + 1 => by
    have ih : AllR rb A c t l f := allR f
    refine ⟨lev_chain (n := 0) (ops := [[111, 114]]) (.inl ⟨rfl, rfl⟩) ih.xo f, lev_chain (n := 1) (ops := [[120, 111, 114]]) (.inr (.inl ⟨rfl, rfl⟩)) ih.cj f, lev_chain (n := 2) (ops := [[97, 110, 100]]) (.inr (.inr (.inl ⟨rfl, rfl⟩))) (lev_not ih.ng) f, ?_, lev_chain (n := 4) (ops := [[43], [45]]) (.inr (.inr (.inr ⟨rfl, rfl⟩))) (lev_prim ih.pr) f, prim_r (expr_r ih.ex)⟩
    match f with
    | 0 =>
      intro s w y s' hs h
      exfalso
      rw [rLev_neg] at h
      split at h
      · obtain ⟨_, _, q, _⟩ := thenR_some h
        cases q
      · cases h
    | g + 1 => exact not_r ih.ng (allR g).sm
/-- The reader's expr. -/
theorem read_any {rb : Nat} {A : Option Addr} {c : Nat} {t : List UInt8} {l : List Tok} (f : Nat) : PartR rb A c t l 20 (rLev l f .expr) := expr_r (allR f).ex
end Go.Proofs.YtmbmngnnfkdngaaGreatDoor

/-
  The tokens of a text: the reference's cut.
-/
namespace Go.Proofs.YtmbmngnnfkdngaaGreatDoor
open Go.RowKit

def tkC (k : Tok) : List Value := [.int .i64 k.kind, .string ⟨k.text.toArray⟩, .int .i64 k.pos]
theorem infoTk : (Tryz.prog.info? 59).map (fun i => (i.zero, i.size, i.bytes)) = some (some (.agg #[.int .i64 0, .string ⟨#[]⟩, .int .i64 0]), 3, 32) := by kernel_rfl
theorem tk_one (k : Tok) : ∀ u ∈ tkC k, u.oneCell' = true := by
  intro u hu
  simp only [tkC, List.mem_cons, List.not_mem_nil, or_false] at hu
  rcases hu with rfl | rfl | rfl <;> rfl
def RetCut (r : Except (Int × Int) (List Tok)) (w : World) (e : Ending) (w' : World) : Prop := match r with
  | .error (a, er) => e = .returned (.tuple #[.slice Option.none 0 0, .int .i64 a, .int .i64 er]) ∧ Below w.heap.size w w'
  | .ok l => ∃ v, e = .returned (.tuple #[v, .int .i64 0, .int .i64 0]) ∧ w'.ownsRow w.heap.size 59 3 v l.length (l.flatMap tkC) ∧ Below w.heap.size w w'
/-- The loop: the tokens so far. -/
def CuR (w : World) (t : List UInt8) (f : Nat) (v iv : Value) (wr : World) : Prop :=
  ∃ i acc, toksG t f i acc = toksP t ∧ i ≤ t.length ∧ t.length - i < f ∧ acc.length ≤ i ∧ iv = .int .i64 (i : Int) ∧ wr.ownsRow w.heap.size 59 3 v acc.length (acc.flatMap tkC) ∧ Below w.heap.size w wr
/-- What the reference asks of a number. -/
theorem big_of {c : UInt8} {q : List UInt8} (hd : digitB c = true) (h : 5 < (c :: q).length) : 32767 < decV (c :: q) ∨ (1 < (c :: q).length ∧ c = 48) := by
  by_cases h0 : c = 48
  · exact .inr ⟨by omega, h0⟩
  · refine .inl (Nat.lt_of_not_le fun hv => ?_)
    have := decV_len hd h0 hv
    simp only [List.length_cons] at h
    omega

set_option maxRecDepth 100000 in
set_option maxHeartbeats 16000000 in
theorem cut_any' (t : List UInt8) (hl : t.length ≤ 1000) (w : World) : Calls Tryz.prog 19 #[.string ⟨t.toArray⟩] w (RetCut (toksP t) w) := by
  obtain ⟨ti, hti, hzi⟩ := Option.map_eq_some_iff.1 infoTk
  obtain ⟨hz0, hz1, hz2⟩ : ti.zero = some (.agg #[.int .i64 0, .string ⟨#[]⟩, .int .i64 0]) ∧ ti.size = 3 ∧ ti.bytes = 32 := by simpa using hzi
  have HTI := Lib.hid (And.intro hti (And.intro hz0 (And.intro hz1 hz2)))
  clear hti hzi hz0 hz1 hz2
  go_enter Tryz.func19, Tryz.ntmps19
  go_wp2
  go_loopg [5, 6] (t.length + 1) (fun f v iv wr => CuR w t f v iv wr)
  case atStart => exact ⟨0, [], rfl, Nat.zero_le _, by omega, Nat.le_refl _, rfl, ⟨rfl, .inl ⟨rfl, rfl⟩⟩, Below.refl _ _⟩
  case round =>
    obtain ⟨i, acc, hst, hi, hf, hai, rfl, hown, hbel⟩ := hrel
    have hsz := hbel.size
    obtain ⟨Av, cv, rfl, hv1, hv2⟩ := own_shape hown
    cases gk with
    | zero => exact absurd hf (by omega)
    | succ f =>
    unfold toksG at hst
    have HOW := Lib.hid hown
    clear hown
    by_cases hlt : i < t.length
    case neg =>
      obtain rfl : i = t.length := by omega
      rw [List.getElem?_eq_none (Nat.le_refl _)] at hst
      have HST := Lib.hid (show Except.ok acc = toksP t from hst)
      clear hst hlt hv1 hv2
      go_wp2
      refine bodyPost_ret (v := .tuple #[.slice Av acc.length cv, .int .i64 0, .int .i64 0]) (by simp [results, Tryz.results19, go_sem]) rfl ?_
      rw [← HST.out]
      exact ⟨_, rfl, HOW.out, hbel⟩
    have hc := List.getElem?_eq_getElem hlt
    generalize hcc : t[i] = c at *
    have hkb : ({ data := t.toArray } : ByteArray)[i]'(by show i < t.toArray.size; simpa using hlt) = c := by subst hcc; rfl
    clear hcc
    rw [hc] at hst
    simp only [] at hst
    have HC := Lib.hid hc
    clear hc
    by_cases c1 : c = 32
    · subst c1
      have HST := Lib.hid (show toksG t f (i + 1) acc = toksP t from hst)
      have d1 : (((32 : UInt8).toNat : Int) == 32) = true := by decide
      clear hst
      go_wp2
      go_roundg f
      case measure => omega
      case rel => exact ⟨i + 1, acc, HST.out, by omega, by omega, by omega, by go_num, HOW.out, hbel⟩
    have n32 : ((c.toNat : Int) == 32) = false := by
      have : c.toNat ≠ 32 := fun q => c1 (UInt8.toNat.inj q)
      simp; omega
    unfold tokAt at hst
    rw [if_neg (by simpa using c1)] at hst
    by_cases c2 : letterB c = true
    · rw [if_pos c2] at hst
      obtain ⟨R, hR⟩ : ∃ R, runB wordB t (i + 1) = R := ⟨_, rfl⟩
      have hRb := runB_le wordB t (i + 1)
      rw [hR] at hst hRb
      have hR1 : i + 1 ≤ R := hRb.1
      have hR2 : R ≤ t.length := hRb.2 (by omega)
      have HIN := Lib.hid (fun j (h1 : i + 1 ≤ j) (h2 : j < R) => run_in (p := wordB) (t := t) h1 (by rw [hR]; exact h2))
      have HOUT := Lib.hid (fun c' (h : t[R]? = some c') => run_out (p := wordB) (t := t) (a := i + 1) (by rw [hR]; exact h))
      have C2 := fun W => rletter_any c W
      rw [c2] at C2
      have HC2 := Lib.hid C2
      have HST := Lib.hid hst
      clear C2 hst hR hRb
      go_wp2_with fail
      refine (HC2.out _).mono ?_
      rintro e' w9 ⟨rfl, rfl⟩
      go_wp2_with fail
      go_loopg [8] (R - i) (fun g v wr2 => EndR wr i R g v wr2)
      case atStart => exact ⟨i + 1, Nat.le_refl _, hR1, by omega, by go_num, rfl⟩
      case round =>
        obtain ⟨j, hj1, hj2, hg, rfl, rfl⟩ := hrel
        by_cases hjR : j < R
        · obtain ⟨d, hd, hwd⟩ := HIN.out j hj1 hjR
          have Hd := Lib.hid hd
          have hjl : j < t.length := by omega
          have hkb_d : ({ data := t.toArray } : ByteArray)[j]'(by show j < t.toArray.size; simpa using hjl) = d := byte_at Hd.out
          have CL := fun W => rletter_any d W
          have CD := fun W => rdigit_any d W
          unfold wordB at hwd
          clear hd
          cases hld : letterB d with
          | true =>
            rw [hld] at CL
            have HCL := Lib.hid CL
            clear CL CD hwd hld
            go_wp2_with fail
            refine (HCL.out _).mono ?_
            rintro e' w9 ⟨rfl, rfl⟩
            go_wp2
            go_roundg (R - j)
            case measure => omega
            case rel => exact ⟨j + 1, by omega, by omega, by omega, by go_num, rfl⟩
          | false =>
            rw [hld] at CL hwd
            cases hdd : digitB d with
            | true =>
              rw [hdd] at CD
              have HCL := Lib.hid CL
              have HCD := Lib.hid CD
              clear CL CD hwd hld hdd
              go_wp2_with fail
              refine (HCL.out _).mono ?_
              rintro e' w9 ⟨rfl, rfl⟩
              go_wp2_with fail
              refine (HCD.out _).mono ?_
              rintro e' w9 ⟨rfl, rfl⟩
              go_wp2
              go_roundg (R - j)
              case measure => omega
              case rel => exact ⟨j + 1, by omega, by omega, by omega, by go_num, rfl⟩
            | false =>
              rw [hdd] at CD hwd
              have h95 : ((d.toNat : Int) == 95) = true := by
                have : d = 95 := by simpa using hwd
                subst this
                decide
              have HCL := Lib.hid CL
              have HCD := Lib.hid CD
              clear CL CD hwd hld hdd
              go_wp2_with fail
              refine (HCL.out _).mono ?_
              rintro e' w9 ⟨rfl, rfl⟩
              go_wp2_with fail
              refine (HCD.out _).mono ?_
              rintro e' w9 ⟨rfl, rfl⟩
              go_wp2
              go_roundg (R - j)
              case measure => omega
              case rel => exact ⟨j + 1, by omega, by omega, by omega, by go_num, rfl⟩
        · obtain rfl : j = R := by omega
          have hst2 := HST.out
          by_cases h12 : 12 < j - i
          · rw [if_pos h12] at hst2
            have HGO := Lib.hid (show Except.error ((i : Int), 7) = toksP t from hst2)
            have d12 : (12 : Int) < (j : Int) - (i : Int) := by omega
            clear hst2 HST h12
            by_cases hjl : j < t.length
            · obtain ⟨d, hd⟩ : ∃ d, t[j]? = some d := ⟨_, List.getElem?_eq_getElem hjl⟩
              have hwd := HOUT.out d hd
              have Hd := Lib.hid hd
              have hkb_d : ({ data := t.toArray } : ByteArray)[j]'(by show j < t.toArray.size; simpa using hjl) = d := byte_at Hd.out
              have CL := fun W => rletter_any d W
              have CD := fun W => rdigit_any d W
              unfold wordB at hwd
              simp only [Bool.or_eq_false_iff] at hwd
              rw [hwd.1.1] at CL
              rw [hwd.1.2] at CD
              have h95 : ((d.toNat : Int) == 95) = false := by
                have h1 := hwd.2
                have : d ≠ 95 := by simpa using h1
                have : d.toNat ≠ 95 := fun q => this (UInt8.toNat.inj q)
                simp; omega
              have HCL := Lib.hid CL
              have HCD := Lib.hid CD
              clear CL CD hwd hd
              go_wp2_with fail
              refine (HCL.out _).mono ?_
              rintro e' w9 ⟨rfl, rfl⟩
              go_wp2_with fail
              refine (HCD.out _).mono ?_
              rintro e' w9 ⟨rfl, rfl⟩
              go_wp2
              refine bodyPost_ret (v := .tuple #[.slice Option.none 0 0, .int .i64 (i : Int), .int .i64 7]) (by simp [results, Tryz.results19, go_sem]) rfl ?_
              rw [← HGO.out]
              exact ⟨rfl, hbel⟩
            · have HJ := Lib.hid (show j = t.length by omega)
              go_wp2
              refine bodyPost_ret (v := .tuple #[.slice Option.none 0 0, .int .i64 (i : Int), .int .i64 7]) (by simp [results, Tryz.results19, go_sem]) rfl ?_
              rw [← HGO.out]
              exact ⟨rfl, hbel⟩
          · rw [if_neg h12] at hst2
            have d12 : ¬ (12 : Int) < (j : Int) - (i : Int) := by omega
            obtain ⟨s, hs⟩ : ∃ s, cutB t i j = s := ⟨_, rfl⟩
            have hext : ByteArray.extract { data := t.toArray } i j = ⟨s.toArray⟩ := by rw [ext_cut, hs]
            rw [hs] at hst2
            have HGO := Lib.hid (show toksG t f j (acc ++ [⟨1, s, (i : Int), 0⟩]) = toksP t from hst2)
            clear hst2 HST h12 hs
            by_cases hjl : j < t.length
            · obtain ⟨d, hd⟩ : ∃ d, t[j]? = some d := ⟨_, List.getElem?_eq_getElem hjl⟩
              have hwd := HOUT.out d hd
              have Hd := Lib.hid hd
              have hkb_d : ({ data := t.toArray } : ByteArray)[j]'(by show j < t.toArray.size; simpa using hjl) = d := byte_at Hd.out
              have CL := fun W => rletter_any d W
              have CD := fun W => rdigit_any d W
              unfold wordB at hwd
              simp only [Bool.or_eq_false_iff] at hwd
              rw [hwd.1.1] at CL
              rw [hwd.1.2] at CD
              have h95 : ((d.toNat : Int) == 95) = false := by
                have h1 := hwd.2
                have : d ≠ 95 := by simpa using h1
                have : d.toNat ≠ 95 := fun q => this (UInt8.toNat.inj q)
                simp; omega
              have HCL := Lib.hid CL
              have HCD := Lib.hid CD
              clear CL CD hwd hd
              go_wp2_with fail
              refine (HCL.out _).mono ?_
              rintro e' w9 ⟨rfl, rfl⟩
              go_wp2_with fail
              refine (HCD.out _).mono ?_
              rintro e' w9 ⟨rfl, rfl⟩
              have HM1 := Lib.hid (show acc.length + 1 ≤ maxLen by unfold maxLen; omega)
              have HM2 := Lib.hid (show (acc.length + 1) * 32 ≤ 140737488355328 by omega)
              have on1 := Lib.hid (tk_one ⟨1, s, (i : Int), 0⟩)
              go_wp2_with (at_builtin; refine wpList_push (o := ⟨some 64, _, _, _, _, _⟩) _ _ 52 rfl rfl Tryz.underlying52 HTI.out.1 HTI.out.2.1 HTI.out.2.2.1 HTI.out.2.2.2 rfl (by decide) rfl HOW.out hbel _ rfl rfl rfl on1.out HM2.out HM1.out hsz ?_; intro v2 w2 hown2 hbel2 hsz2)
              obtain ⟨A2, c2', rfl, -, -⟩ := own_shape hown2
              go_roundg f
              case measure => omega
              case rel =>
                refine ⟨j, acc ++ [⟨1, s, (i : Int), 0⟩], HGO.out, by omega, by omega, ?_, by first | rfl | go_num, ?_, hbel2⟩
                · simp only [List.length_append, List.length_singleton]
                  omega
                · rw [List.flatMap_append]
                  simpa [tkC] using hown2
            · have HJ := Lib.hid (show j = t.length by omega)
              have HM1 := Lib.hid (show acc.length + 1 ≤ maxLen by unfold maxLen; omega)
              have HM2 := Lib.hid (show (acc.length + 1) * 32 ≤ 140737488355328 by omega)
              have on1 := Lib.hid (tk_one ⟨1, s, (i : Int), 0⟩)
              go_wp2_with (at_builtin; refine wpList_push (o := ⟨some 64, _, _, _, _, _⟩) _ _ 52 rfl rfl Tryz.underlying52 HTI.out.1 HTI.out.2.1 HTI.out.2.2.1 HTI.out.2.2.2 rfl (by decide) rfl HOW.out hbel _ rfl rfl rfl on1.out HM2.out HM1.out hsz ?_; intro v2 w2 hown2 hbel2 hsz2)
              obtain ⟨A2, c2', rfl, -, -⟩ := own_shape hown2
              go_roundg f
              case measure => omega
              case rel =>
                refine ⟨j, acc ++ [⟨1, s, (i : Int), 0⟩], HGO.out, by omega, by omega, ?_, by first | rfl | go_num, ?_, hbel2⟩
                · simp only [List.length_append, List.length_singleton]
                  omega
                · rw [List.flatMap_append]
                  simpa [tkC] using hown2
    rw [if_neg c2] at hst
    have C2 := fun W => rletter_any c W
    rw [show letterB c = false by simpa using c2] at C2
    have HC2 := Lib.hid C2
    clear C2 c2
    by_cases c3 : digitB c = true
    · rw [if_pos c3] at hst
      obtain ⟨R, hR⟩ : ∃ R, runB digitB t (i + 1) = R := ⟨_, rfl⟩
      have hRb := runB_le digitB t (i + 1)
      have hcut := cut_run digitB t i c HC.out
      have hall := takeWhile_all digitB (t.drop (i + 1))
      rw [hR] at hst hRb hcut
      obtain ⟨q, hq⟩ : ∃ q, (t.drop (i + 1)).takeWhile digitB = q := ⟨_, rfl⟩
      rw [hq] at hcut hall
      have hR1 : i + 1 ≤ R := hRb.1
      have hR2 : R ≤ t.length := hRb.2 (by omega)
      have HIN := Lib.hid (fun j (h1 : i + 1 ≤ j) (h2 : j < R) => run_in (p := digitB) (t := t) h1 (by rw [hR]; exact h2))
      have HOUT := Lib.hid (fun c' (h : t[R]? = some c') => run_out (p := digitB) (t := t) (a := i + 1) (by rw [hR]; exact h))
      have hqd : (c :: q).all digitB = true := by simp [c3, hall]
      have hql : (c :: q).length = R - i := by
        have := congrArg List.length hcut
        unfold cutB at this
        rw [List.length_drop, List.length_take] at this
        rw [← this]
        omega
      have hext : ByteArray.extract { data := t.toArray } i R = ⟨(c :: q).toArray⟩ := by rw [ext_cut, hcut]
      rw [hcut] at hst
      have HCD0 := Lib.hid c3
      have C3 := fun W => rdigit_any c W
      rw [c3] at C3
      have HC3 := Lib.hid C3
      have HST := Lib.hid hst
      have HQD := Lib.hid hqd
      have HLN := Lib.hid hql
      clear C3 hst hR hRb hcut hall hq hqd hql c3
      go_wp2_with fail
      refine (HC2.out _).mono ?_
      rintro e' w9 ⟨rfl, rfl⟩
      go_wp2_with fail
      refine (HC3.out _).mono ?_
      rintro e' w9 ⟨rfl, rfl⟩
      go_wp2_with fail
      go_loopg [8] (R - i) (fun g v wr2 => EndR wr i R g v wr2)
      case atStart => exact ⟨i + 1, Nat.le_refl _, hR1, by omega, by go_num, rfl⟩
      case round =>
        obtain ⟨j, hj1, hj2, hg, rfl, rfl⟩ := hrel
        by_cases hjR : j < R
        · obtain ⟨d, hd, hwd⟩ := HIN.out j hj1 hjR
          have Hd := Lib.hid hd
          have hjl : j < t.length := by omega
          have hkb_d : ({ data := t.toArray } : ByteArray)[j]'(by show j < t.toArray.size; simpa using hjl) = d := byte_at Hd.out
          have CD := fun W => rdigit_any d W
          rw [hwd] at CD
          have HCD := Lib.hid CD
          clear hd CD hwd
          go_wp2_with fail
          refine (HCD.out _).mono ?_
          rintro e' w9 ⟨rfl, rfl⟩
          go_wp2
          go_roundg (R - j)
          case measure => omega
          case rel => exact ⟨j + 1, by omega, by omega, by omega, by go_num, rfl⟩
        · obtain rfl : j = R := by omega
          have hst2 := HST.out
          by_cases hbig : 32767 < decV (c :: q) ∨ (1 < (c :: q).length ∧ c = 48)
          · rw [if_pos hbig] at hst2
            have HGO := Lib.hid (show Except.error ((i : Int), 2) = toksP t from hst2)
            clear hst2 HST
            by_cases h48 : c = 48 ∧ i + 1 < j
            · have t48 : ((c.toNat : Int) == 48) = true := by rw [h48.1]; decide
              have tj : (i : Int) + 1 < (j : Int) := by omega
              clear h48
              by_cases hjl : j < t.length
              · obtain ⟨d, hd⟩ : ∃ d, t[j]? = some d := ⟨_, List.getElem?_eq_getElem hjl⟩
                have hwd := HOUT.out d hd
                have Hd := Lib.hid hd
                have hkb_d : ({ data := t.toArray } : ByteArray)[j]'(by show j < t.toArray.size; simpa using hjl) = d := byte_at Hd.out
                have CD := fun W => rdigit_any d W
                rw [hwd] at CD
                have HCD := Lib.hid CD
                clear hd CD hwd
                go_wp2_with fail
                refine (HCD.out _).mono ?_
                rintro e' w9 ⟨rfl, rfl⟩
                go_wp2
                refine bodyPost_ret (v := .tuple #[.slice Option.none 0 0, .int .i64 (i : Int), .int .i64 2]) (by simp [results, Tryz.results19, go_sem]) rfl ?_
                rw [← HGO.out]
                exact ⟨rfl, hbel⟩
              · have HJ := Lib.hid (show j = t.length by omega)
                go_wp2
                refine bodyPost_ret (v := .tuple #[.slice Option.none 0 0, .int .i64 (i : Int), .int .i64 2]) (by simp [results, Tryz.results19, go_sem]) rfl ?_
                rw [← HGO.out]
                exact ⟨rfl, hbel⟩

            have T1 : ((c.toNat : Int) == 48) = true ∧ ¬ (i : Int) + 1 < (j : Int) ∨ ((c.toNat : Int) == 48) = false := by
              by_cases h0 : c = 48
              · exact .inl ⟨by rw [h0]; decide, fun q => h48 ⟨h0, by omega⟩⟩
              · refine .inr ?_
                have : c.toNat ≠ 48 := fun q => h0 (UInt8.toNat.inj q)
                simp; omega
            by_cases h5 : 5 < j - i
            · have t5 : (5 : Int) < (j : Int) - (i : Int) := by omega
              clear h48
              rcases T1 with ⟨t48, tj⟩ | t48
              · by_cases hjl : j < t.length
                · obtain ⟨d, hd⟩ : ∃ d, t[j]? = some d := ⟨_, List.getElem?_eq_getElem hjl⟩
                  have hwd := HOUT.out d hd
                  have Hd := Lib.hid hd
                  have hkb_d : ({ data := t.toArray } : ByteArray)[j]'(by show j < t.toArray.size; simpa using hjl) = d := byte_at Hd.out
                  have CD := fun W => rdigit_any d W
                  rw [hwd] at CD
                  have HCD := Lib.hid CD
                  clear hd CD hwd
                  go_wp2_with fail
                  refine (HCD.out _).mono ?_
                  rintro e' w9 ⟨rfl, rfl⟩
                  go_wp2
                  refine bodyPost_ret (v := .tuple #[.slice Option.none 0 0, .int .i64 (i : Int), .int .i64 2]) (by simp [results, Tryz.results19, go_sem]) rfl ?_
                  rw [← HGO.out]
                  exact ⟨rfl, hbel⟩
                · have HJ := Lib.hid (show j = t.length by omega)
                  go_wp2
                  refine bodyPost_ret (v := .tuple #[.slice Option.none 0 0, .int .i64 (i : Int), .int .i64 2]) (by simp [results, Tryz.results19, go_sem]) rfl ?_
                  rw [← HGO.out]
                  exact ⟨rfl, hbel⟩
              · by_cases hjl : j < t.length
                · obtain ⟨d, hd⟩ : ∃ d, t[j]? = some d := ⟨_, List.getElem?_eq_getElem hjl⟩
                  have hwd := HOUT.out d hd
                  have Hd := Lib.hid hd
                  have hkb_d : ({ data := t.toArray } : ByteArray)[j]'(by show j < t.toArray.size; simpa using hjl) = d := byte_at Hd.out
                  have CD := fun W => rdigit_any d W
                  rw [hwd] at CD
                  have HCD := Lib.hid CD
                  clear hd CD hwd
                  go_wp2_with fail
                  refine (HCD.out _).mono ?_
                  rintro e' w9 ⟨rfl, rfl⟩
                  go_wp2
                  refine bodyPost_ret (v := .tuple #[.slice Option.none 0 0, .int .i64 (i : Int), .int .i64 2]) (by simp [results, Tryz.results19, go_sem]) rfl ?_
                  rw [← HGO.out]
                  exact ⟨rfl, hbel⟩
                · have HJ := Lib.hid (show j = t.length by omega)
                  go_wp2
                  refine bodyPost_ret (v := .tuple #[.slice Option.none 0 0, .int .i64 (i : Int), .int .i64 2]) (by simp [results, Tryz.results19, go_sem]) rfl ?_
                  rw [← HGO.out]
                  exact ⟨rfl, hbel⟩

            have t5 : ¬ (5 : Int) < (j : Int) - (i : Int) := by omega
            have hvb : 32767 < decV (c :: q) := by
              rcases hbig with h | ⟨h1, h2⟩
              · exact h
              · exfalso
                have := HLN.out
                exact h48 ⟨h2, by omega⟩
            have HCV := Lib.hid (fun W => value_any (c :: q) HQD.out (by have := HLN.out; omega) W)
            obtain ⟨n, hn⟩ : ∃ n : Int, ((decV (c :: q) : Nat) : Int) = n := ⟨_, rfl⟩
            have tn : (32767 : Int) < n := by omega
            rw [hn] at HCV
            clear hvb hn h48 hbig
            rcases T1 with ⟨t48, tj⟩ | t48
            · by_cases hjl : j < t.length
              · obtain ⟨d, hd⟩ : ∃ d, t[j]? = some d := ⟨_, List.getElem?_eq_getElem hjl⟩
                have hwd := HOUT.out d hd
                have Hd := Lib.hid hd
                have hkb_d : ({ data := t.toArray } : ByteArray)[j]'(by show j < t.toArray.size; simpa using hjl) = d := byte_at Hd.out
                have CD := fun W => rdigit_any d W
                rw [hwd] at CD
                have HCD := Lib.hid CD
                clear hd CD hwd
                go_wp2_with fail
                refine (HCD.out _).mono ?_
                rintro e' w9 ⟨rfl, rfl⟩
                go_wp2_with fail
                refine (HCV.out _).mono ?_
                rintro e' w9 ⟨rfl, rfl⟩
                go_wp2
                refine bodyPost_ret (v := .tuple #[.slice Option.none 0 0, .int .i64 (i : Int), .int .i64 2]) (by simp [results, Tryz.results19, go_sem]) rfl ?_
                rw [← HGO.out]
                exact ⟨rfl, hbel⟩
              · have HJ := Lib.hid (show j = t.length by omega)
                go_wp2_with fail
                refine (HCV.out _).mono ?_
                rintro e' w9 ⟨rfl, rfl⟩
                go_wp2
                refine bodyPost_ret (v := .tuple #[.slice Option.none 0 0, .int .i64 (i : Int), .int .i64 2]) (by simp [results, Tryz.results19, go_sem]) rfl ?_
                rw [← HGO.out]
                exact ⟨rfl, hbel⟩
            · by_cases hjl : j < t.length
              · obtain ⟨d, hd⟩ : ∃ d, t[j]? = some d := ⟨_, List.getElem?_eq_getElem hjl⟩
                have hwd := HOUT.out d hd
                have Hd := Lib.hid hd
                have hkb_d : ({ data := t.toArray } : ByteArray)[j]'(by show j < t.toArray.size; simpa using hjl) = d := byte_at Hd.out
                have CD := fun W => rdigit_any d W
                rw [hwd] at CD
                have HCD := Lib.hid CD
                clear hd CD hwd
                go_wp2_with fail
                refine (HCD.out _).mono ?_
                rintro e' w9 ⟨rfl, rfl⟩
                go_wp2_with fail
                refine (HCV.out _).mono ?_
                rintro e' w9 ⟨rfl, rfl⟩
                go_wp2
                refine bodyPost_ret (v := .tuple #[.slice Option.none 0 0, .int .i64 (i : Int), .int .i64 2]) (by simp [results, Tryz.results19, go_sem]) rfl ?_
                rw [← HGO.out]
                exact ⟨rfl, hbel⟩
              · have HJ := Lib.hid (show j = t.length by omega)
                go_wp2_with fail
                refine (HCV.out _).mono ?_
                rintro e' w9 ⟨rfl, rfl⟩
                go_wp2
                refine bodyPost_ret (v := .tuple #[.slice Option.none 0 0, .int .i64 (i : Int), .int .i64 2]) (by simp [results, Tryz.results19, go_sem]) rfl ?_
                rw [← HGO.out]
                exact ⟨rfl, hbel⟩
          · rw [if_neg hbig] at hst2
            have hq48 : ¬ (c = 48 ∧ i + 1 < j) := fun h => hbig (.inr ⟨by have := HLN.out; omega, h.1⟩)
            have t5 : ¬ (5 : Int) < (j : Int) - (i : Int) := fun h => hbig (big_of HCD0.out (by have := HLN.out; omega))
            have T1 : ((c.toNat : Int) == 48) = true ∧ ¬ (i : Int) + 1 < (j : Int) ∨ ((c.toNat : Int) == 48) = false := by
              by_cases h0 : c = 48
              · exact .inl ⟨by rw [h0]; decide, fun q => hq48 ⟨h0, by omega⟩⟩
              · refine .inr ?_
                have : c.toNat ≠ 48 := fun q => h0 (UInt8.toNat.inj q)
                simp; omega
            have HCV := Lib.hid (fun W => value_any (c :: q) HQD.out (by have := HLN.out; omega) W)
            obtain ⟨n, hn⟩ : ∃ n : Int, ((decV (c :: q) : Nat) : Int) = n := ⟨_, rfl⟩
            have tn : ¬ (32767 : Int) < n := fun h => hbig (.inl (by omega))
            rw [hn] at hst2 HCV
            have HGO := Lib.hid (show toksG t f j (acc ++ [⟨2, c :: q, (i : Int), n⟩]) = toksP t from hst2)
            clear hst2 HST hbig hn hq48
            rcases T1 with ⟨t48, tj⟩ | t48
            · by_cases hjl : j < t.length
              · obtain ⟨d, hd⟩ : ∃ d, t[j]? = some d := ⟨_, List.getElem?_eq_getElem hjl⟩
                have hwd := HOUT.out d hd
                have Hd := Lib.hid hd
                have hkb_d : ({ data := t.toArray } : ByteArray)[j]'(by show j < t.toArray.size; simpa using hjl) = d := byte_at Hd.out
                have CD := fun W => rdigit_any d W
                rw [hwd] at CD
                have HCD := Lib.hid CD
                clear hd CD hwd
                go_wp2_with fail
                refine (HCD.out _).mono ?_
                rintro e' w9 ⟨rfl, rfl⟩
                go_wp2_with fail
                refine (HCV.out _).mono ?_
                rintro e' w9 ⟨rfl, rfl⟩
                have HM1 := Lib.hid (show acc.length + 1 ≤ maxLen by unfold maxLen; omega)
                have HM2 := Lib.hid (show (acc.length + 1) * 32 ≤ 140737488355328 by omega)
                have on1 := Lib.hid (tk_one ⟨2, c :: q, (i : Int), n⟩)
                go_wp2_with (at_builtin; refine wpList_push (o := ⟨some 111, _, _, _, _, _⟩) _ _ 52 rfl rfl Tryz.underlying52 HTI.out.1 HTI.out.2.1 HTI.out.2.2.1 HTI.out.2.2.2 rfl (by decide) rfl HOW.out hbel _ rfl rfl rfl on1.out HM2.out HM1.out hsz ?_; intro v2 w2 hown2 hbel2 hsz2)
                obtain ⟨A2, c2', rfl, -, -⟩ := own_shape hown2
                go_roundg f
                case measure => omega
                case rel =>
                  refine ⟨j, acc ++ [⟨2, c :: q, (i : Int), n⟩], HGO.out, by omega, by omega, ?_, by first | rfl | go_num, ?_, hbel2⟩
                  · simp only [List.length_append, List.length_singleton]
                    omega
                  · rw [List.flatMap_append]
                    simpa [tkC] using hown2
              · have HJ := Lib.hid (show j = t.length by omega)
                go_wp2_with fail
                refine (HCV.out _).mono ?_
                rintro e' w9 ⟨rfl, rfl⟩
                have HM1 := Lib.hid (show acc.length + 1 ≤ maxLen by unfold maxLen; omega)
                have HM2 := Lib.hid (show (acc.length + 1) * 32 ≤ 140737488355328 by omega)
                have on1 := Lib.hid (tk_one ⟨2, c :: q, (i : Int), n⟩)
                go_wp2_with (at_builtin; refine wpList_push (o := ⟨some 111, _, _, _, _, _⟩) _ _ 52 rfl rfl Tryz.underlying52 HTI.out.1 HTI.out.2.1 HTI.out.2.2.1 HTI.out.2.2.2 rfl (by decide) rfl HOW.out hbel _ rfl rfl rfl on1.out HM2.out HM1.out hsz ?_; intro v2 w2 hown2 hbel2 hsz2)
                obtain ⟨A2, c2', rfl, -, -⟩ := own_shape hown2
                go_roundg f
                case measure => omega
                case rel =>
                  refine ⟨j, acc ++ [⟨2, c :: q, (i : Int), n⟩], HGO.out, by omega, by omega, ?_, by first | rfl | go_num, ?_, hbel2⟩
                  · simp only [List.length_append, List.length_singleton]
                    omega
                  · rw [List.flatMap_append]
                    simpa [tkC] using hown2
            · by_cases hjl : j < t.length
              · obtain ⟨d, hd⟩ : ∃ d, t[j]? = some d := ⟨_, List.getElem?_eq_getElem hjl⟩
                have hwd := HOUT.out d hd
                have Hd := Lib.hid hd
                have hkb_d : ({ data := t.toArray } : ByteArray)[j]'(by show j < t.toArray.size; simpa using hjl) = d := byte_at Hd.out
                have CD := fun W => rdigit_any d W
                rw [hwd] at CD
                have HCD := Lib.hid CD
                clear hd CD hwd
                go_wp2_with fail
                refine (HCD.out _).mono ?_
                rintro e' w9 ⟨rfl, rfl⟩
                go_wp2_with fail
                refine (HCV.out _).mono ?_
                rintro e' w9 ⟨rfl, rfl⟩
                have HM1 := Lib.hid (show acc.length + 1 ≤ maxLen by unfold maxLen; omega)
                have HM2 := Lib.hid (show (acc.length + 1) * 32 ≤ 140737488355328 by omega)
                have on1 := Lib.hid (tk_one ⟨2, c :: q, (i : Int), n⟩)
                go_wp2_with (at_builtin; refine wpList_push (o := ⟨some 111, _, _, _, _, _⟩) _ _ 52 rfl rfl Tryz.underlying52 HTI.out.1 HTI.out.2.1 HTI.out.2.2.1 HTI.out.2.2.2 rfl (by decide) rfl HOW.out hbel _ rfl rfl rfl on1.out HM2.out HM1.out hsz ?_; intro v2 w2 hown2 hbel2 hsz2)
                obtain ⟨A2, c2', rfl, -, -⟩ := own_shape hown2
                go_roundg f
                case measure => omega
                case rel =>
                  refine ⟨j, acc ++ [⟨2, c :: q, (i : Int), n⟩], HGO.out, by omega, by omega, ?_, by first | rfl | go_num, ?_, hbel2⟩
                  · simp only [List.length_append, List.length_singleton]
                    omega
                  · rw [List.flatMap_append]
                    simpa [tkC] using hown2
              · have HJ := Lib.hid (show j = t.length by omega)
                go_wp2_with fail
                refine (HCV.out _).mono ?_
                rintro e' w9 ⟨rfl, rfl⟩
                have HM1 := Lib.hid (show acc.length + 1 ≤ maxLen by unfold maxLen; omega)
                have HM2 := Lib.hid (show (acc.length + 1) * 32 ≤ 140737488355328 by omega)
                have on1 := Lib.hid (tk_one ⟨2, c :: q, (i : Int), n⟩)
                go_wp2_with (at_builtin; refine wpList_push (o := ⟨some 111, _, _, _, _, _⟩) _ _ 52 rfl rfl Tryz.underlying52 HTI.out.1 HTI.out.2.1 HTI.out.2.2.1 HTI.out.2.2.2 rfl (by decide) rfl HOW.out hbel _ rfl rfl rfl on1.out HM2.out HM1.out hsz ?_; intro v2 w2 hown2 hbel2 hsz2)
                obtain ⟨A2, c2', rfl, -, -⟩ := own_shape hown2
                go_roundg f
                case measure => omega
                case rel =>
                  refine ⟨j, acc ++ [⟨2, c :: q, (i : Int), n⟩], HGO.out, by omega, by omega, ?_, by first | rfl | go_num, ?_, hbel2⟩
                  · simp only [List.length_append, List.length_singleton]
                    omega
                  · rw [List.flatMap_append]
                    simpa [tkC] using hown2
    rw [if_neg c3] at hst
    have C3 := fun W => rdigit_any c W
    rw [show digitB c = false by simpa using c3] at C3
    have HC3 := Lib.hid C3
    have C4 := fun W => symbol_any c W
    clear C3 c3
    by_cases c4 : symB c = true
    · rw [if_pos c4] at hst
      rw [c4] at C4
      have HC4 := Lib.hid C4
      have hx1 : cutB t i (i + 1) = [c] := by
        unfold cutB
        rw [List.drop_take, show i + 1 - i = 1 by omega]
        obtain ⟨h1, h2⟩ := List.getElem?_eq_some_iff.1 HC.out
        rw [List.drop_eq_getElem_cons h1, h2]
        rfl
      have hext : ByteArray.extract { data := t.toArray } i (i + 1) = ⟨[c].toArray⟩ := by rw [ext_cut, hx1]
      have HGO := Lib.hid (show toksG t f (i + 1) (acc ++ [⟨3, [c], (i : Int), 0⟩]) = toksP t from hst)
      clear hst hx1 c4 C4
      go_wp2_with fail
      refine (HC2.out _).mono ?_
      rintro e' w9 ⟨rfl, rfl⟩
      go_wp2_with fail
      refine (HC3.out _).mono ?_
      rintro e' w9 ⟨rfl, rfl⟩
      go_wp2_with fail
      refine (HC4.out _).mono ?_
      rintro e' w9 ⟨rfl, hb9⟩
      have hs9 := hb9.size
      have hown9 := Lib.hid (own_below HOW.out hb9 (Nat.le_refl _))
      have hbel9 := hbel.trans (hb9.mono hsz)
      have hsz9 : w.heap.size ≤ w9.heap.size := Nat.le_trans hsz hs9
      have HM1 := Lib.hid (show acc.length + 1 ≤ maxLen by unfold maxLen; omega)
      have HM2 := Lib.hid (show (acc.length + 1) * 32 ≤ 140737488355328 by omega)
      have on1 := Lib.hid (tk_one ⟨3, [c], (i : Int), 0⟩)
      go_wp2_with (at_builtin; refine wpList_push (o := ⟨some 123, _, _, _, _, _⟩) _ _ 52 rfl rfl Tryz.underlying52 HTI.out.1 HTI.out.2.1 HTI.out.2.2.1 HTI.out.2.2.2 rfl (by decide) rfl hown9.out hbel9 _ rfl rfl rfl on1.out HM2.out HM1.out hsz9 ?_; intro v2 w2 hown2 hbel2 hsz2)
      obtain ⟨A2, c2', rfl, -, -⟩ := own_shape hown2
      go_roundg f
      case measure => omega
      case rel =>
        refine ⟨(i + 1), acc ++ [⟨3, [c], (i : Int), 0⟩], HGO.out, by omega, by omega, ?_, by first | rfl | go_num, ?_, hbel2⟩
        · simp only [List.length_append, List.length_singleton]
          omega
        · rw [List.flatMap_append]
          simpa [tkC] using hown2
    · rw [if_neg c4] at hst
      rw [show symB c = false by simpa using c4] at C4
      have HC4 := Lib.hid C4
      have HGO := Lib.hid (show Except.error ((i : Int), 5) = toksP t from hst)
      clear hst c4 C4
      go_wp2_with fail
      refine (HC2.out _).mono ?_
      rintro e' w9 ⟨rfl, rfl⟩
      go_wp2_with fail
      refine (HC3.out _).mono ?_
      rintro e' w9 ⟨rfl, rfl⟩
      go_wp2_with fail
      refine (HC4.out _).mono ?_
      rintro e' w9 ⟨rfl, hb9⟩
      have hbel9 := hbel.trans (hb9.mono hsz)
      go_wp2
      refine bodyPost_ret (v := .tuple #[.slice Option.none 0 0, .int .i64 (i : Int), .int .i64 5]) (by simp [results, Tryz.results19, go_sem]) rfl ?_
      rw [← HGO.out]
      exact ⟨rfl, hbel9⟩
end Go.Proofs.YtmbmngnnfkdngaaGreatDoor

/-
  An expression that was read has no more nodes than there are tokens. No program is named here.
-/
namespace Go.Proofs.YtmbmngnnfkdngaaGreatDoor

theorem szL_append (f : Ex → Nat) : ∀ (a b : List Ex), szL f (a ++ b) = szL f a + szL f b
  | [], b => by simp [szL]
  | x :: a, b => by
    have := szL_append f a b
    simp only [List.cons_append, szL, this]
    omega
def SzE (e : Nat → Int → Res Ex) : Prop := ∀ i la x j lb, e i la = some (.ok (x, j, lb)) → ∀ d, szG d x ≤ j - i
theorem sz_two {d i0 i k : Nat} {x z : Ex} (op : Int) (hx : ∀ d, szG d x ≤ i - i0) (hz : ∀ d, szG d z ≤ k - (i + 1)) (h0 : i0 ≤ i) (h1 : i + 1 ≤ k) : szG d (.mk op 0 [] [x, z]) ≤ k - i0 := by
  cases d with
  | zero => exact Nat.zero_le _
  | succ d =>
    have := hx d
    have := hz d
    simp only [szG, szL]
    omega
theorem pMore_sz {L : List Tok} {e : Nat → Int → Res Ex} (hL : Ends L) (he : FwdE L.length e) (hs : SzE e) (ops : List (List UInt8)) (hops : ops.contains [] = false) :
    ∀ g x i la y j lb i0, pMore L e ops g x i la = some (.ok (y, j, lb)) → i < L.length → i0 ≤ i → (∀ d, szG d x ≤ i - i0) → ∀ d, szG d y ≤ j - i0
  | 0, _, _, _, _, _, _, _, h, _, _, _, _ => by cases h
  | g + 1, x, i, la, y, j, lb, i0, h, hi, h0, hx, d => by
    unfold pMore at h
    split at h
    · rename_i hc
      obtain ⟨z, k, lc, h1, h2⟩ := go_ok h
      obtain ⟨t1, t2⟩ := hL.take (i := i) (fun q => by rw [q, hops] at hc; cases hc)
      rw [t1] at h1
      have a := he _ _ _ _ _ h1
      have b := hs _ _ _ _ _ h1
      exact pMore_sz hL he hs ops hops g _ _ _ _ _ _ i0 h2 a.2 (by omega) (fun d => sz_two _ hx b h0 (by omega)) d
    · cases h; exact hx d
theorem pChain_sz {L : List Tok} {e : Nat → Int → Res Ex} (hL : Ends L) (he : FwdE L.length e) (hs : SzE e) (ops : List (List UInt8)) (hops : ops.contains [] = false) (g : Nat) : SzE (pChain L e ops g) := by
  intro i la y j lb h d
  obtain ⟨z, k, lc, h1, h2⟩ := go_ok h
  have a := he _ _ _ _ _ h1
  exact pMore_sz hL he hs ops hops g _ _ _ _ _ _ i h2 a.2 (by omega) (hs _ _ _ _ _ h1) d
theorem pArgs_sz {L : List Tok} {e : Nat → Int → Res Ex} (hL : Ends L) (he : FwdE L.length e) (hs : SzE e) : ∀ k acc i la ks j lb i0, pArgs L e k acc i la = some (.ok (ks, j, lb)) → i < L.length → i0 ≤ i → (∀ d, szL (szG d) acc ≤ i - i0) → ∀ d, szL (szG d) ks ≤ j - i0
  | 0, _, _, _, _, _, _, _, h, _, _, hx, d => by cases h; exact hx d
  | k + 1, acc, i, la, ks, j, lb, i0, h, hi, h0, hx, d => by
    unfold pArgs at h
    split at h
    · obtain ⟨z, m, lc, h1, h2⟩ := go_ok h
      have a := he _ _ _ _ _ h1
      have b := hs _ _ _ _ _ h1
      exact pArgs_sz hL he hs k _ _ _ _ _ _ i0 h2 a.2 (by omega) (fun d => by have := hx d; have := b d; rw [szL_append]; simp only [szL]; omega) d
    · obtain ⟨hc, h'⟩ := need_okP h
      obtain ⟨z, m, lc, h1, h2⟩ := go_ok h'
      obtain ⟨t1, t2⟩ := hL.isT hc (by decide)
      rw [t1] at h1
      have a := he _ _ _ _ _ h1
      have b := hs _ _ _ _ _ h1
      exact pArgs_sz hL he hs k _ _ _ _ _ _ i0 h2 a.2 (by omega) (fun d => by have := hx d; have := b d; rw [szL_append]; simp only [szL]; omega) d
theorem pLast_sz {L : List Tok} (hL : Ends L) {op n : Int} {ks : List Ex} {i i0 : Nat} {la : Int} {y : Ex} {j : Nat} {lb : Int} (h : pLast L op n ks i la = some (.ok (y, j, lb))) (h0 : i0 ≤ i) (hk : ∀ d, szL (szG d) ks ≤ i - i0) : ∀ d, szG d y ≤ j - i0 := by
  obtain ⟨hc, h'⟩ := need_okP h
  obtain ⟨t1, t2⟩ := hL.isT hc (by decide)
  cases h'
  intro d
  cases d with
  | zero => exact Nat.zero_le _
  | succ d =>
    have := hk d
    simp only [szG]
    omega
theorem pCall_sz {L : List Tok} {e : Nat → Int → Res Ex} (hL : Ends L) (he : FwdE L.length e) (hs : SzE e) (op : Int) : SzE (pCall L e op) := by
  intro i la y j lb h
  obtain ⟨hc, h'⟩ := need_okP h
  obtain ⟨t1, t2⟩ := hL.isT hc (by decide)
  obtain ⟨ks, m, lc, h1, h2⟩ := go_ok h'
  rw [t1] at h1
  have a := pArgs_fwd hL he _ _ _ _ _ _ _ h1 (by omega)
  have b := pArgs_sz hL he hs _ _ _ _ _ _ _ i h1 (by omega) (by omega) (fun d => by simp [szL])
  split at h2
  · obtain ⟨hc2, h3⟩ := need_okP h2
    obtain ⟨t3, t4⟩ := hL.isT hc2 (by decide)
    split at h3
    · rename_i hk
      obtain ⟨t5, t6⟩ := kind_take hL (i := takeI L m) (by rw [hk]; decide)
      exact pLast_sz hL h3 (by omega) (fun d => by have := b d; omega)
    · cases h3
  · exact pLast_sz hL h2 (by omega) b
theorem sz_leaf (op n : Int) (nm : List UInt8) {m : Nat} (hm : 1 ≤ m) : ∀ d, szG d (.mk op n nm []) ≤ m := by
  intro d
  cases d with
  | zero => exact Nat.zero_le _
  | succ d => simp only [szG, szL]; omega
theorem pPrim_sz {L : List Tok} {e : Nat → Int → Res Ex} (hL : Ends L) (he : FwdE L.length e) (hs : SzE e) : SzE (pPrim L e) := by
  intro i la y j lb h
  unfold pPrim at h
  split at h
  · rename_i hc
    obtain ⟨t1, t2⟩ := hL.isT hc (by decide)
    obtain ⟨x, m, lc, h1, h2⟩ := go_ok h
    rw [t1] at h1
    have a := hs _ _ _ _ _ h1
    obtain ⟨hc2, h3⟩ := need_okP h2
    obtain ⟨t3, t4⟩ := hL.isT hc2 (by decide)
    cases h3
    intro d
    have := a d
    omega
  split at h
  · rename_i hc
    obtain ⟨t1, t2⟩ := hL.isT hc (by decide)
    cases h; exact sz_leaf _ _ _ (by omega)
  split at h
  · rename_i hc
    obtain ⟨t1, t2⟩ := hL.isT hc (by decide)
    cases h; exact sz_leaf _ _ _ (by omega)
  split at h
  · rename_i hc
    obtain ⟨t1, t2⟩ := hL.take (i := i) (fun q => by rw [q] at hc; exact absurd hc (by decide))
    intro d
    have := pCall_sz hL he hs _ _ _ _ _ _ h d
    omega
  split at h
  · rename_i hk
    obtain ⟨t1, t2⟩ := kind_take hL (i := i) (by rw [hk]; decide)
    cases h; exact sz_leaf _ _ _ (by omega)
  split at h
  · rename_i hk
    obtain ⟨t1, t2⟩ := kind_take hL (i := i) (by rw [hk.1]; decide)
    cases h; exact sz_leaf _ _ _ (by omega)
  · cases h
theorem pLev_sz {L : List Tok} (hL : Ends L) : ∀ f lv, SzE (pLev L f lv)
  | 0, _ => fun _ _ _ _ _ h => by cases h
  | f + 1, lv => by
    have ih := fun lv => pLev_sz hL f lv
    have fw := fun lv => pLev_fwd hL f lv
    cases lv
    · exact pChain_sz hL (fw .xor) (ih .xor) _ (by decide) f
    · exact pChain_sz hL (fw .conj) (ih .conj) _ (by decide) f
    · exact pChain_sz hL (fw .neg) (ih .neg) _ (by decide) f
    · intro i la y j lb h
      simp only [pLev] at h
      split at h
      · rename_i hc
        obtain ⟨t1, t2⟩ := hL.isT hc (by decide)
        obtain ⟨x, m, lc, h1, h2⟩ := go_ok h
        rw [t1] at h1
        have a := ih .neg _ _ _ _ _ h1
        have b := fw .neg _ _ _ _ _ h1
        cases h2
        intro d
        cases d with
        | zero => exact Nat.zero_le _
        | succ d =>
          have := a d
          simp only [szG, szL]
          omega
      · exact ih .rel _ _ _ _ _ h
    · intro i la y j lb h
      simp only [pLev] at h
      obtain ⟨x, m, lc, h1, h2⟩ := go_ok h
      have a := ih .sum _ _ _ _ _ h1
      have b := fw .sum _ _ _ _ _ h1
      split at h2
      · rename_i hc
        obtain ⟨t1, t2⟩ := hL.take (i := m) (fun q => by rw [q] at hc; exact absurd hc (by decide))
        obtain ⟨z, q, ld, h3, h4⟩ := go_ok h2
        rw [t1] at h3
        have a2 := ih .sum _ _ _ _ _ h3
        have b2 := fw .sum _ _ _ _ _ h3
        cases h4
        intro d
        exact sz_two _ a a2 (by omega) (by omega)
      · cases h2; exact a
    · exact pChain_sz hL (fw .prim) (ih .prim) _ (by decide) f
    · exact pPrim_sz hL (fw .expr) (ih .expr)
/-- The reader's answer, and that what it read well is small. -/
theorem parse_read2 {t : List UInt8} (ht : ¬ 120 < t.length) {l : List Tok} (hl : toksP t = .ok l) : ∃ y s, rLev l 1008 .expr ⟨0, false, -1⟩ = some (y, s) ∧ s.i ≤ l.length ∧ endR t l y s = parseP t ∧ (s.bad = false → ∀ d, szG d y ≤ 120) := by
  obtain ⟨y, s, h1, h2, h3⟩ := parse_read ht hl
  refine ⟨y, s, h1, h2, h3, fun hb => ?_⟩
  obtain ⟨hw, hlen⟩ := toksP_ok hl
  obtain ⟨v, hv⟩ := pLev_fin (ends_of hw) 1000 .expr 0 (-1) (by simp [rankL]; omega)
  obtain ⟨y', s', hy', ho⟩ := rLev_good hw 1000 .expr 0 (-1) v (Nat.zero_le _) hv
  rw [show 1000 + 8 = 1008 from rfl, h1] at hy'
  injection hy' with hy'
  injection hy' with e1 e2
  subst e1
  subst e2
  rcases v with ⟨a, er⟩ | ⟨x, j, la⟩
  · exact absurd ho.1 (by rw [hb]; decide)
  · obtain ⟨rfl, rfl, hj⟩ := ho
    intro d
    have := pLev_sz (ends_of hw) 1000 .expr _ _ _ _ _ hv d
    omega
end Go.Proofs.YtmbmngnnfkdngaaGreatDoor

/-
  The reference's Parse.
-/
namespace Go.Proofs.YtmbmngnnfkdngaaGreatDoor
open Go.RowKit

/-- What Parse returns. -/
def RetPq (t : List UInt8) (w : World) (e : Ending) (w' : World) : Prop :=
  ∃ op n nm A c ks, (parseP t).1 = .mk op n nm ks ∧ e = .returned (.tuple #[.agg #[.int .i64 op, .int .i64 n, .string ⟨nm.toArray⟩, .slice A ks.length c], .int .i64 (parseP t).2.1, .int .i64 (parseP t).2.2]) ∧ XI w' op n nm A c ks ∧ Below w.heap.size w w' ∧ Rw ExV 4 w' (New w w') A ks.length ks
theorem RetPq.zero {t : List UInt8} {w w' : World} {a er : Int} (h : parseP t = (.zero, a, er)) (hb : Below w.heap.size w w') : RetPq t w (.returned (.tuple #[.agg #[.int .i64 0, .int .i64 0, .string ⟨#[]⟩, .slice Option.none 0 0], .int .i64 a, .int .i64 er])) w' :=
  ⟨0, 0, [], Option.none, 0, [], by rw [h]; rfl, by rw [h]; rfl, ⟨Nat.le_refl _, by unfold maxLen; decide, ⟨by decide, by decide, by simp⟩, Rw.nil⟩, hb, Rw.nil⟩
theorem toks_err {t : List UInt8} {a e : Int} (h : toksP t = .error (a, e)) : e ≠ 0 := by
  rintro rfl
  have key : ∀ f i acc, toksG t f i acc ≠ .error (a, 0) := by
    intro f
    induction f with
    | zero => intro i acc q; cases q
    | succ f ih =>
      intro i acc q
      unfold toksG at q
      split at q
      · cases q
      · rename_i c hc
        split at q
        · rename_i e' he'
          cases q
          unfold tokAt at he'
          repeat' split at he'
          all_goals first | cases he' | (injection he' with he'; injection he' with _ he'; exact absurd he' (by decide))
        · exact ih _ _ q
        · exact ih _ _ q
  exact key _ _ _ h
theorem parse_cases (t : List UInt8) : (120 < t.length ∧ parseP t = (.zero, 0, 4)) ∨ (¬ 120 < t.length ∧ ∃ a e, toksP t = .error (a, e) ∧ e ≠ 0 ∧ parseP t = (.zero, a, e)) ∨
    (¬ 120 < t.length ∧ ∃ l y s, toksP t = .ok l ∧ rLev l 1008 .expr ⟨0, false, -1⟩ = some (y, s) ∧ s.i ≤ l.length ∧ endR t l y s = parseP t ∧ (s.bad = false → ∀ d, szG d y ≤ 120)) := by
  have hp := parseP_eq t
  unfold parseF at hp
  by_cases hl : 120 < t.length
  · rw [if_pos hl] at hp
    injection hp with hp
    exact .inl ⟨hl, hp.symm⟩
  · rw [if_neg hl] at hp
    cases ht : toksP t with
    | error e =>
      obtain ⟨a, e⟩ := e
      rw [ht] at hp
      injection hp with hp
      exact .inr (.inl ⟨hl, a, e, rfl, toks_err ht, hp.symm⟩)
    | ok l =>
      obtain ⟨y, s, h1, h2, h3, h4⟩ := parse_read2 hl ht
      exact .inr (.inr ⟨hl, l, y, s, rfl, h1, h2, h3, h4⟩)
theorem below_set4 {n : Nat} {w w' : World} (h : Below n w w') {b : Nat} (hb : n ≤ b) (v0 v1 v2 v3 : Value) : Below n w (set4 w' b v0 v1 v2 v3) :=
  (((h.setCell (p := ⟨b, 0, Option.none⟩) hb v0).setCell (p := ⟨b, 1, Option.none⟩) hb v1).setCell (p := ⟨b, 2, Option.none⟩) hb v2).setCell (p := ⟨b, 3, Option.none⟩) hb v3
theorem _root_.Go.RowKit.Below.drewq {n : Nat} {w w' : World} (h : Below n w w') : Below n w w'.drew := below_drew h

set_option maxRecDepth 100000 in
set_option maxHeartbeats 8000000 in
theorem rparse_in (t : List UInt8) (w : World) : Calls Tryz.prog 7 #[.string ⟨t.toArray⟩] w (RetPq t w) := by
  have hb0 := box_below w (Obj.cells #[.int .i64 0, .int .i64 0, .string ⟨#[]⟩, .slice Option.none 0 0] 25)
  have hZ := ZB.new w
  have HB0 := Lib.hid hb0
  have HZ := Lib.hid hZ
  clear hb0 hZ
  rcases parse_cases t with ⟨hl, hp⟩ | ⟨hl, a, er, ht, he0, hp⟩ | ⟨hl, l, y, s, ht, hrd, hsi, hend, hsz⟩
  · have HP := Lib.hid hp
    clear hp
    go_enter Tryz.func7, Tryz.ntmps7
    go_wp2
    exact bodyPost_ret (v := .tuple #[.agg #[.int .i64 0, .int .i64 0, .string ⟨#[]⟩, .slice Option.none 0 0], .int .i64 0, .int .i64 4]) (by simp [results, Tryz.results7, go_sem]) rfl (RetPq.zero HP.out HB0.out)
  · have HC := Lib.hid (fun W => cut_any' t (by omega) W)
    rw [ht] at HC
    have HP := Lib.hid hp
    have ee : (er != 0) = true := by simp [he0]
    clear hp ht he0
    go_enter Tryz.func7, Tryz.ntmps7
    go_wp2_with fail
    refine (HC.out _).mono ?_
    rintro e w1 ⟨rfl, hb1⟩
    have HB1 := Lib.hid (below_two HB0.out hb1 HB0.out.size)
    have HZ1 := Lib.hid (HZ.out.below hb1)
    clear hb1 HZ HB0 HC
    obtain ⟨q0, q1, q2, q3, z0, z1, z2, z3⟩ := XV.cells (HZ1.out)
    have hzz := XV.lt (HZ1.out)
    have HPT := Lib.hid (put_cells (HZ1.out) 0 0 [] Option.none 0 0)
    have HBB := Lib.hid (below_set4 (HB1.out) (Nat.le_refl _) (.int .i64 0) (.int .i64 0) (.string ⟨#[]⟩) (.slice Option.none 0 0))
    have HPE := Lib.hid (HP.out)
    go_wp2
    change bodyPost _ _ _ _ _ (set4 w1 w.heap.size (.int .i64 0) (.int .i64 0) (.string ⟨#[]⟩) (.slice Option.none 0 0))
    obtain ⟨r0, r1, r2, r3, -, -, -, -⟩ := HPT.out.cells
    exact bodyPost_ret (v := .tuple #[.agg #[.int .i64 0, .int .i64 0, .string ⟨#[]⟩, .slice Option.none 0 0], .int .i64 a, .int .i64 er]) (by simp [results, Tryz.results7, go_sem, r0, r1, r2, r3]) rfl (RetPq.zero HPE.out HBB.out)
  have HC := Lib.hid (fun W => cut_any' t (by omega) W)
  rw [ht] at HC
  have HRD := Lib.hid hrd
  have HTK := Lib.hid (toksP_ok ht)
  have HEND := Lib.hid hend
  have HSZ := Lib.hid hsz
  have HRA := Lib.hid (fun rb A c => read_any (rb := rb) (A := A) (c := c) (t := t) (l := l) 1008)
  have htl : t.length ≤ 120 := Nat.le_of_not_lt hl
  have hll : l.length ≤ 120 := Nat.le_trans (toksP_ok ht).2 htl
  clear ht hrd hend hsz
  go_enter Tryz.func7, Tryz.ntmps7
  go_wp2_with fail
  refine (HC.out _).mono ?_
  rintro e w1 ⟨v, rfl, hown, hb1⟩
  obtain ⟨A, c, rfl, hac, hcm⟩ := own_shape hown
  have HB1 := Lib.hid (below_two HB0.out hb1 HB0.out.size)
  have HZ1 := Lib.hid (HZ.out.below hb1)
  have hs1 := HB1.out.size
  have hz1 := XV.lt HZ1.out
  have hbx := box_below w1 (RdCells A c l ⟨0, false, -1⟩)
  have hrs : RS w1.heap.size A c t l ⟨0, false, -1⟩ (w1.alloc (RdCells A c l ⟨0, false, -1⟩)) := by
    refine ⟨heap_alloc_new w1 _, ?_, Nat.zero_le _, HTK.out.2, htl, HTK.out.1⟩
    have h := Rw.of_own (R := TkrC) (S := fun b => b < w1.heap.size) (f := tkC) hown rfl (fun _ _ => rfl) (fun _ _ => rfl) (fun b _ h => h)
    exact h.mono TkrC.mono (fun b hb => ⟨by rw [World.size_alloc]; omega, by omega⟩) (keepOn_below hbx fun b hb => hb)
  have HTR := Lib.hid (Rw.of_own (R := TkrC) (S := fun b => w.heap.size < b ∧ b < w1.heap.size) (f := tkC) hown rfl (fun _ _ => rfl) (fun _ _ => rfl) (fun b h1 h => ⟨by rw [World.size_alloc] at h1; omega, h⟩))
  have HRS := Lib.hid hrs
  have HBX := Lib.hid hbx
  have HCR := Lib.hid (HRA.out _ _ _ _ _ _ _ hrs HRD.out)
  unfold RdCells at HBX HCR HRS
  clear hb1 hown hrs hbx HC HZ HB0 HRA HRD
  go_wp2_with fail
  refine HCR.out.mono ?_
  rintro e w2 ⟨op, n, nm, A1, c1, ks, rfl, rfl, hc1, hm1, hp1, hr1, hl1, hi1⟩
  unfold exV
  have hs2 := hl1.1.size
  rw [World.size_alloc] at hs2
  have hl1' : LeftR w1.heap.size A c l s (w1.alloc (Obj.cells #[.slice A l.length c, .int .i64 0, .bool false, .int .i64 (-1)] 57)) w2 := hl1
  have hZ2 := (HZ1.out.below (box_below w1 _)).leftR hl1' (by omega)
  have hB2 : Below w.heap.size w w2 := HB1.out.grown ((World.grownBy_alloc w1 _ (some w1.heap.size)).trans hl1'.1) hs1 (fun j hj => by cases hj; exact hs1)
  have hS2 := HRS.out.left hl1' hi1
  have HT2 := Lib.hid (HTR.out.mono TkrC.mono (fun b hb => hb) ((keepOn_below (S := fun b => w.heap.size < b ∧ b < w1.heap.size) (box_below w1 (Obj.cells #[.slice A l.length c, .int .i64 0, .bool false, .int .i64 (-1)] 57)) fun b hb => hb.2).trans (keepOn_grown hl1'.1 fun b hb => ⟨by rw [World.size_alloc]; omega, fun q => by have := hb.2; injection q; omega⟩)))
  have hx3 := box_below w2 (Obj.cells #[.int .i64 op, .int .i64 n, .string ⟨nm.toArray⟩, .slice A1 ks.length c1] 25)
  have HX := Lib.hid (XV.new w2 op n nm A1 ks.length c1)
  have HRW := Lib.hid (hr1.mono (S' := fun b => w.heap.size < b ∧ b < w2.heap.size) ExV.mono (fun b hb => ⟨by have := hb.1; rw [World.size_alloc] at this; omega, hb.2⟩) (KeepOn.refl _ _))
  have HX3K := Lib.hid (keepOn_below (S := fun b => b < w2.heap.size) hx3 fun b hb => hb)
  have HSX := Lib.hid hx3.size
  have hI2 : XI w2 op n nm A1 c1 ks := ⟨hc1, hm1, hp1, hr1.mono ExV.mono (fun b hb => hb.2) (KeepOn.refl _ _)⟩
  have HI3 := Lib.hid (hI2.below hx3)
  have HZ3 := Lib.hid (hZ2.below hx3)
  have HB3 := Lib.hid (below_two hB2 hx3 hB2.size)
  have hS3 := hS2.below hx3
  have HS2 := Lib.hid hS2
  obtain ⟨p0, p1, p2, p3, f1, f2, f3⟩ := hS3.cells
  have hpl := hS3.ltp
  have HS3 := Lib.hid hS3
  clear hl1 hl1' hr1 hZ2 hB2 hS2 hx3 hI2 hS3 HCR HRS HBX HZ1 HB1
  obtain ⟨i, bad, la⟩ := s
  dsimp only at p0 p1 p2 p3 hsi
  have hen := HEND.out
  unfold endR at hen
  by_cases hbi : bad = true ∨ i < l.length
  · rw [if_pos hbi] at hen
    have hcs : bad = true ∨ bad = false ∧ decide (i < l.length) = true := by
      rcases hbi with q | q
      · exact .inl q
      · cases bad
        · exact .inr ⟨rfl, by simpa using q⟩
        · exact .inl rfl
    by_cases hi : i < l.length
    · rw [if_pos hi] at hen
      obtain ⟨b, o, cs, x, hA, ⟨hb4, hb5⟩, hx, -, hR, hat⟩ := HT2.out.at_ hi
      obtain rfl : cs = _ := hR
      have htx : tk l i = x := by unfold tk; rw [List.getD_eq_getElem?_getD, hx]; rfl
      subst hA
      have t0 := hat 0 _ rfl
      have t2 := hat 2 _ rfl
      dsimp only at hen t0 t2
      rw [htx] at hen
      have hb6 : b < w2.heap.size := by omega
      clear hat hx htx
      have HPE0 := Lib.hid hen.symm
      clear hen hbi HEND HSZ
      rcases hcs with rfl | ⟨rfl, dq⟩
      all_goals
        obtain ⟨q0, q1, q2, q3, z0, z1, z2, z3⟩ := XV.cells (HZ3.out)
        have hzz := XV.lt (HZ3.out)
        have HPT := Lib.hid (put_cells (HZ3.out) 0 0 [] Option.none 0 0)
        have HBB := Lib.hid (below_set4 (HB3.out) (Nat.le_refl _) (.int .i64 0) (.int .i64 0) (.string ⟨#[]⟩) (.slice Option.none 0 0))
        have HPE := Lib.hid (HPE0.out)
        go_wp2
        go_region
        go_wp2
        change bodyPost _ _ _ _ _ (set4 (w2.alloc (Obj.cells #[.int .i64 op, .int .i64 n, .string ⟨nm.toArray⟩, .slice A1 ks.length c1] 25)) w.heap.size (.int .i64 0) (.int .i64 0) (.string ⟨#[]⟩) (.slice Option.none 0 0)).drew
        obtain ⟨r0, r1, r2, r3, -, -, -, -⟩ := HPT.out.cells
        exact bodyPost_ret (v := .tuple #[.agg #[.int .i64 0, .int .i64 0, .string ⟨#[]⟩, .slice Option.none 0 0], .int .i64 x.pos, .int .i64 6]) (by simp [results, Tryz.results7, go_sem, r0, r1, r2, r3]) rfl (RetPq.zero HPE.out HBB.out.drewq)
    · rw [if_neg hi] at hen
      have HPE0 := Lib.hid hen.symm
      have dq2 : decide (i < l.length) = false := by simpa using hi
      obtain rfl : bad = true := by
        rcases hcs with q | ⟨-, q⟩
        · exact q
        · rw [dq2] at q; cases q
      clear hen hbi HEND HSZ hcs
      obtain ⟨q0, q1, q2, q3, z0, z1, z2, z3⟩ := XV.cells (HZ3.out)
      have hzz := XV.lt (HZ3.out)
      have HPT := Lib.hid (put_cells (HZ3.out) 0 0 [] Option.none 0 0)
      have HBB := Lib.hid (below_set4 (HB3.out) (Nat.le_refl _) (.int .i64 0) (.int .i64 0) (.string ⟨#[]⟩) (.slice Option.none 0 0))
      have HPE := Lib.hid (HPE0.out)
      go_wp2
      change bodyPost _ _ _ _ _ (set4 (w2.alloc (Obj.cells #[.int .i64 op, .int .i64 n, .string ⟨nm.toArray⟩, .slice A1 ks.length c1] 25)) w.heap.size (.int .i64 0) (.int .i64 0) (.string ⟨#[]⟩) (.slice Option.none 0 0))
      obtain ⟨r0, r1, r2, r3, -, -, -, -⟩ := HPT.out.cells
      exact bodyPost_ret (v := .tuple #[.agg #[.int .i64 0, .int .i64 0, .string ⟨#[]⟩, .slice Option.none 0 0], .int .i64 t.length, .int .i64 6]) (by simp [results, Tryz.results7, go_sem, r0, r1, r2, r3]) rfl (RetPq.zero HPE.out HBB.out)
  rw [if_neg hbi] at hen
  obtain rfl : bad = false := by cases bad; rfl; exact absurd (.inl rfl) hbi
  have dq : decide (i < l.length) = false := by
    have : ¬ i < l.length := fun q => hbi (.inr q)
    simpa using this
  dsimp only at hen
  by_cases hla : 0 ≤ la
  · rw [if_pos hla] at hen
    have HPE0 := Lib.hid hen.symm
    clear hen hbi HEND HSZ
    obtain ⟨q0, q1, q2, q3, z0, z1, z2, z3⟩ := XV.cells (HZ3.out)
    have hzz := XV.lt (HZ3.out)
    have HPT := Lib.hid (put_cells (HZ3.out) 0 0 [] Option.none 0 0)
    have HBB := Lib.hid (below_set4 (HB3.out) (Nat.le_refl _) (.int .i64 0) (.int .i64 0) (.string ⟨#[]⟩) (.slice Option.none 0 0))
    have HPE := Lib.hid (HPE0.out)
    go_wp2
    go_region
    go_wp2
    change bodyPost _ _ _ _ _ (set4 (w2.alloc (Obj.cells #[.int .i64 op, .int .i64 n, .string ⟨nm.toArray⟩, .slice A1 ks.length c1] 25)) w.heap.size (.int .i64 0) (.int .i64 0) (.string ⟨#[]⟩) (.slice Option.none 0 0)).drew
    obtain ⟨r0, r1, r2, r3, -, -, -, -⟩ := HPT.out.cells
    exact bodyPost_ret (v := .tuple #[.agg #[.int .i64 0, .int .i64 0, .string ⟨#[]⟩, .slice Option.none 0 0], .int .i64 la, .int .i64 2]) (by simp [results, Tryz.results7, go_sem, r0, r1, r2, r3]) rfl (RetPq.zero HPE.out HBB.out.drewq)
  rw [if_neg hla] at hen
  have HCV := Lib.hid (rvalid_in HI3.out (fun d _ => Nat.le_trans (HSZ.out rfl d) (by decide)))
  cases hv : validP (.mk op n nm ks) with
  | false =>
    rw [hv] at hen HCV
    rw [if_neg Bool.false_ne_true] at hen
    have HPE0 := Lib.hid hen.symm
    obtain ⟨x0, x1, x2, x3, -, -, -, -⟩ := HX.out.cells
    clear hen hbi HEND HSZ hv
    go_wp2_with fail
    refine HCV.out.mono ?_
    rintro e w4 ⟨rfl, hb4⟩
    have HZ4 := Lib.hid (HZ3.out.below hb4)
    have HB4 := Lib.hid (below_two HB3.out hb4 HB3.out.size)
    clear hb4 HZ3 HB3 x0 x1 x2 x3
    obtain ⟨q0, q1, q2, q3, z0, z1, z2, z3⟩ := XV.cells (HZ4.out)
    have hzz := XV.lt (HZ4.out)
    have HPT := Lib.hid (put_cells (HZ4.out) 0 0 [] Option.none 0 0)
    have HBB := Lib.hid (below_set4 (HB4.out) (Nat.le_refl _) (.int .i64 0) (.int .i64 0) (.string ⟨#[]⟩) (.slice Option.none 0 0))
    have HPE := Lib.hid (HPE0.out)
    go_wp2
    change bodyPost _ _ _ _ _ (set4 w4 w.heap.size (.int .i64 0) (.int .i64 0) (.string ⟨#[]⟩) (.slice Option.none 0 0))
    obtain ⟨r0, r1, r2, r3, -, -, -, -⟩ := HPT.out.cells
    exact bodyPost_ret (v := .tuple #[.agg #[.int .i64 0, .int .i64 0, .string ⟨#[]⟩, .slice Option.none 0 0], .int .i64 0, .int .i64 17]) (by simp [results, Tryz.results7, go_sem, r0, r1, r2, r3]) rfl (RetPq.zero HPE.out HBB.out)
  | true =>
    rw [hv] at hen HCV
    rw [if_pos rfl] at hen
    have HPE0 := Lib.hid hen.symm
    obtain ⟨x0, x1, x2, x3, -, -, -, -⟩ := HX.out.cells
    clear hen hbi HEND HSZ hv
    go_wp2_with fail
    refine HCV.out.mono ?_
    rintro e w4 ⟨rfl, hb4⟩
    have HZ4 := Lib.hid (HZ3.out.below hb4)
    have HB4 := Lib.hid (below_two HB3.out hb4 HB3.out.size)
    have HI4 := Lib.hid (HI3.out.below hb4)
    have HK4 := Lib.hid (HX3K.out.trans (keepOn_below (S := fun b => b < w2.heap.size) hb4 fun b hb => Nat.lt_of_lt_of_le hb HSX.out))
    have hs24 := Nat.le_trans HSX.out hb4.size
    have hX4 := HX.out.below hb4
    clear x0 x1 x2 x3
    obtain ⟨x0, x1, x2, x3, -, -, -, -⟩ := hX4.cells
    have hxl := hX4.lt
    clear hb4 HZ3 HB3 hX4
    obtain ⟨q0, q1, q2, q3, z0, z1, z2, z3⟩ := XV.cells HZ4.out
    have hzz := XV.lt HZ4.out
    have HPT := Lib.hid (put_cells HZ4.out op n nm A1 ks.length c1)
    have HBB := Lib.hid (below_set4 HB4.out (Nat.le_refl _) (.int .i64 op) (.int .i64 n) (.string ⟨nm.toArray⟩) (.slice A1 ks.length c1))
    have hS4 := set4_size w4 w.heap.size (.int .i64 op) (.int .i64 n) (.string ⟨nm.toArray⟩) (.slice A1 ks.length c1)
    have hG4 := set4_grown w4 w.heap.size (.int .i64 op) (.int .i64 n) (.string ⟨nm.toArray⟩) (.slice A1 ks.length c1)
    have HS4 := Lib.hid hS4
    have HG4 := Lib.hid hG4
    clear hS4 hG4
    go_wp2
    change bodyPost _ _ _ _ _ (set4 w4 w.heap.size (.int .i64 op) (.int .i64 n) (.string ⟨nm.toArray⟩) (.slice A1 ks.length c1))
    obtain ⟨r0, r1, r2, r3, -, -, -, -⟩ := HPT.out.cells
    refine bodyPost_ret (v := .tuple #[.agg #[.int .i64 op, .int .i64 n, .string ⟨nm.toArray⟩, .slice A1 ks.length c1], .int .i64 0, .int .i64 0]) (by simp [results, Tryz.results7, go_sem, r0, r1, r2, r3]) rfl ?_
    have hfin : Rw ExV 4 (set4 w4 w.heap.size (.int .i64 op) (.int .i64 n) (.string ⟨nm.toArray⟩) (.slice A1 ks.length c1)) (New w (set4 w4 w.heap.size (.int .i64 op) (.int .i64 n) (.string ⟨nm.toArray⟩) (.slice A1 ks.length c1))) A1 ks.length ks := HRW.out.mono ExV.mono (fun b hb => by have := HS4.out; have := hb.1; have := hb.2; exact ⟨by omega, by omega⟩) ((HK4.out.mono fun b hb => hb.2).trans (keepOn_grown HG4.out fun b hb => ⟨Nat.lt_of_lt_of_le hb.2 hs24, fun q => by have := hb.1; injection q; omega⟩))
    exact ⟨op, n, nm, A1, c1, ks, by rw [HPE0.out], by rw [HPE0.out], ⟨HI4.out.hc, HI4.out.hm, HI4.out.hp, hfin.mono ExV.mono (fun b hb => hb.2) (KeepOn.refl _ _)⟩, HBB.out, hfin⟩
end Go.Proofs.YtmbmngnnfkdngaaGreatDoor

/-
  The reference's Rules.
-/
namespace Go.Proofs.YtmbmngnnfkdngaaGreatDoor
open Go.RowKit

/-- A valid expression is small. -/
theorem valid_small {x : Ex} (h : validP x = true) (d : Nat) (hd : inG d x) : szG d x ≤ 1000000000000000000 := by
  have := valid_eq hd
  rw [h] at this
  have h2 := this.symm
  simp only [Bool.and_eq_true, decide_eq_true_eq] at h2
  omega
/-- The names that are known: a row of the call's own, which lies apart from the row of expressions and from their operands. -/
structure EnO (w : World) (base : Nat) (T : Nat → Prop) (v7 v8 : Value) (env : List Sg) : Prop where
  own : w.ownsRow base 69 2 v7 env.length (env.flatMap sgCells)
  fit : ∀ s ∈ env, s.nm.length ≤ maxLen ∧ (Lit.int .i64 s.kind).wf = true
  apart : ∀ g, v7.ownBlock = some g → v8.ownBlock ≠ some g ∧ ¬ T g
theorem EnO.row {w : World} {base : Nat} {T : Nat → Prop} {A : Option Addr} {n c : Nat} {v8 : Value} {env : List Sg} (h : EnO w base T (.slice A n c) v8 env) (hn : env.length = n) : Rw SgC 2 w (fun b => b < w.heap.size) A n env := by
  subst hn
  exact Rw.of_own (f := sgCells) h.own rfl (fun _ _ => rfl) (fun s hs => ⟨rfl, h.fit s hs⟩) (fun _ _ q => q)
theorem EnO.below {w w' : World} {base B : Nat} {T : Nat → Prop} {v7 v8 : Value} {env : List Sg} (h : EnO w base T v7 v8 env) (hb : Below B w w') (hB : w.heap.size ≤ B) : EnO w' base T v7 v8 env := ⟨own_below h.own hb hB, h.fit, h.apart⟩
/-- The first loop. -/
def QrR (w : World) (base : Nat) (rs : List Rl) (ins : List Sg) (g : Nat) (v7 v8 v36 : Value) (wr : World) : Prop :=
  ∃ k env l T, k ≤ rs.length ∧ rs.length - k < g ∧ v36 = .int .i64 ((k : Nat) : Int) ∧ rulG (rs.drop k) env l k = rulG rs ins [] 0 ∧ env.length = ins.length + k ∧ l.length = k ∧
    EnO wr base T v7 v8 env ∧ XOwn wr base T v8 l ∧ base ≤ wr.heap.size ∧ Below w.heap.size w wr ∧ goodP env = true ∧ ∀ x ∈ l, validP x = true
theorem XOwn.apart {w w' : World} {base : Nat} {T : Nat → Prop} {v : Value} {xs : List Ex} {row : Option Nat} (h : XOwn w base T v xs) (hg : w.grownBy w' row) (hr : ∀ g, row = some g → v.ownBlock ≠ some g ∧ ¬ T g) : XOwn w' base T v xs := by
  obtain ⟨ls, h1, h2, h3, h4⟩ := h
  exact ⟨ls, h1, own_heap h2 (fun g e hgs => hg.block g hgs (fun he => (hr g he.symm).1 e)), fun k l x hl hx => ExV.mono _ _ _ _ _ _ (fun _ q => q) (keepOn_grown hg fun b hb => ⟨(h4 b hb).2.1, fun he => (hr b he.symm).2 hb⟩) (h3 k l x hl hx), fun b hb => ⟨(h4 b hb).1, Nat.lt_of_lt_of_le (h4 b hb).2.1 hg.size, (h4 b hb).2.2⟩⟩
/-- The last loop. -/
def QkR (W : World) (env : List Sg) (l : List Ex) (g : Nat) (v : Value) (wr : World) : Prop :=
  ∃ k : Nat, k ≤ l.length ∧ l.length - k < g ∧ v = .int .i64 (k : Int) ∧ kndG env (l.drop k) k = kndG env l 0 ∧ Below W.heap.size W wr
/-- The loop over the names: none is the rule's. -/
def QnR (W0 : World) (env : List Sg) (nm : List UInt8) (g : Nat) (v : Value) (wr : World) : Prop :=
  ∃ j : Nat, j ≤ env.length ∧ env.length - j < g ∧ v = .int .i64 (j : Int) ∧ (∀ i y, i < j → env[i]? = some y → y.nm ≠ nm) ∧ Below W0.heap.size W0 wr
theorem kindOf_hit {env : List Sg} {j : Nat} {y : Sg} (hy : env[j]? = some y) : (kindOf env y.nm).isSome = true := by
  unfold kindOf
  have hm : y ∈ env := List.mem_of_getElem? hy
  cases hf : env.find? fun x => decide (x.nm = y.nm) with
  | none => have := List.find?_eq_none.1 hf y hm; simp at this
  | some z => rfl
theorem kindOf_miss {env : List Sg} {nm : List UInt8} (h : ∀ (i : Nat) y, i < env.length → env[i]? = some y → y.nm ≠ nm) : kindOf env nm = none := by
  have := kindOf_take_none (k := env.length) h
  rw [List.take_length] at this
  cases hk : kindOf env nm with
  | none => rfl
  | some v => rw [hk] at this; cases this

set_option maxRecDepth 100000 in
set_option maxHeartbeats 8000000 in
theorem rrules_any (A : Option Addr) (c : Nat) (rs : List Rl) (A' : Option Addr) (c' : Nat) (ins : List Sg) (w : World) (hr : Rw RlC 2 w (fun b => b < w.heap.size) A rs.length rs)
    (hc' : ins.length ≤ c') (hm' : c' ≤ maxLen) (hr' : Rw SgC 2 w (fun b => b < w.heap.size) A' ins.length ins) :
    Calls Tryz.prog 12 #[.slice A rs.length c, .slice A' ins.length c'] w (RetRul rs ins w) := by
  have HR := Lib.hid hr
  have HRI := Lib.hid hr'
  have HT := Lib.hid (rgood_any A' c' ins w hc' hm' hr')
  have HP := Lib.hid (show rulP rs ins = if 16 < rs.length ∨ 64 < ins.length then ([], 0, 3) else if goodP ins = false then ([], 0, 1) else match rulG rs ins [] 0 with
    | .error (i, e) => ([], i, e)
    | .ok (env, l) => match kndG env l 0 with
      | some (i, e) => ([], i, e)
      | none => (l, 0, 0) from rfl)
  unfold maxLen at hm'
  clear hr hr'
  by_cases hbig : 16 < rs.length ∨ 64 < ins.length
  · have HE := Lib.hid (HP.out.trans (if_pos hbig))
    have hcs : (16 : Int) < (rs.length : Int) ∨ ¬ (16 : Int) < (rs.length : Int) ∧ (64 : Int) < (ins.length : Int) := by omega
    clear hbig
    rcases hcs with d0 | ⟨d0, d1⟩
    all_goals
      go_enter Tryz.func12, Tryz.ntmps12
      go_wp2
      exact bodyPost_ret (v := .tuple #[.slice Option.none 0 0, .int .i64 0, .int .i64 3]) (by simp [results, Tryz.results12, go_sem]) rfl (RetRul.none HE.out (Below.refl _ _))
  have d0 : ¬ (16 : Int) < (rs.length : Int) := by omega
  have d1 : ¬ (64 : Int) < (ins.length : Int) := by omega
  have hP2 := HP.out.trans (if_neg hbig)
  have HP2 := Lib.hid hP2
  have hrl : rs.length ≤ 16 := by omega
  have hil : ins.length ≤ 64 := by omega
  clear hP2 HP hbig
  cases hg : goodP ins with
  | false =>
    rw [hg] at HT
    have HE := Lib.hid (HP2.out.trans (if_pos hg))
    clear hg
    go_enter Tryz.func12, Tryz.ntmps12
    go_wp2_with fail
    refine HT.out.mono ?_
    rintro e w1 ⟨rfl, hb1⟩
    go_wp2
    exact bodyPost_ret (v := .tuple #[.slice Option.none 0 0, .int .i64 0, .int .i64 1]) (by simp [results, Tryz.results12, go_sem]) rfl (RetRul.none HE.out hb1)
  | true =>
  rw [hg] at HT
  have HP3 := Lib.hid (HP2.out.trans (if_neg (by rw [hg]; decide)))
  have HGD := Lib.hid hg
  clear hg HP2
  go_enter Tryz.func12, Tryz.ntmps12
  go_wp2_with fail
  refine HT.out.mono ?_
  rintro e w1 ⟨rfl, hb1⟩
  have hs1 := hb1.size
  have HB1 := Lib.hid hb1
  obtain ⟨i0, hi0, hz0, hz1, hz2⟩ := info_parts infoSg
  have on1 := Lib.hid (sgCells_one ins)
  have m1 : 0 + ins.length ≤ maxLen := by unfold maxLen; omega
  have m2 : (0 + ins.length) * 24 ≤ 140737488355328 := by omega
  have o1 : (w1.alloc (Obj.cells #[] 69)).ownsRow w1.heap.size 69 2 (.slice (some ⟨w1.heap.size, 0, Option.none⟩) 0 0) 0 [] := World.ownsRow_lit (base := w1.heap.size) (e := 69) (size := 2) w1 #[] 0 (Nat.le_refl _) (Nat.zero_le _) rfl
  have bI := below_two hb1 (box_below w1 (Obj.cells #[] 69)) hb1.size
  have hrI := HRI.out.mono (S' := fun b => b < w.heap.size) SgC.mono (fun _ q => q) (keepOn_below bI fun _ q => q)
  have s1 := src_rw (f := sgCells) hrI (fun cs x h => h.1) (fun x _ => rfl)
  have z1 : w1.heap.size ≤ (w1.alloc (Obj.cells #[] 69)).heap.size := by rw [World.size_alloc]; omega
  have hfit : ∀ s ∈ ins, s.nm.length ≤ maxLen ∧ (Lit.int .i64 s.kind).wf = true := by
    intro s hs
    obtain ⟨j, hj, rfl⟩ := List.getElem_of_mem hs
    obtain ⟨b, o, cs, x, e, hb, hx, _, ⟨_, h1, h2⟩, hat⟩ := HRI.out.at_ hj
    rw [List.getElem?_eq_getElem hj] at hx
    injection hx with hx
    rw [hx]
    exact ⟨h1, h2⟩
  have HO1 := Lib.hid o1
  have HS1 := Lib.hid s1
  have HFIT := Lib.hid hfit
  have HI := Lib.hid (And.intro hi0 (And.intro hz0 (And.intro hz1 hz2)))
  clear hb1 o1 s1 hfit hrI hi0 hz0 hz1 hz2 HT
  go_wp2_with (at_builtin; refine wpList_append_grown (o := ⟨some 33, _, _, _, _, _⟩) (w := w1.alloc (Obj.cells #[] 69)) _ _ 32 rfl rfl Tryz.underlying32 HI.out.1 HI.out.2.1 HI.out.2.2.1 HI.out.2.2.2 rfl (by decide) rfl HO1.out rfl HS1.out on1.out m1 m2 z1 ?_; intro v7 w7 hown7 hg7 hv7)
  have HG7 := Lib.hid (show (w1.alloc (Obj.cells #[] 69)).grownBy w7 (Value.slice (some ⟨w1.heap.size, 0, Option.none⟩) 0 0).ownBlock from hg7)
  have hb7 : Below w.heap.size w w7 := bI.grown hg7 (by have := bI.size; exact this) (fun j hj => by
    have : some w1.heap.size = some j := hj
    cases this
    exact hs1)
  have hs7 := hg7.size
  rw [World.size_alloc] at hs7
  have hen : EnO w7 w1.heap.size (fun _ => False) v7 (.slice Option.none 0 0) ins := ⟨by simpa using hown7, HFIT.out, fun g hg => ⟨(by intro q; cases q), fun q => q⟩⟩
  have HEN := Lib.hid hen
  have HB7 := Lib.hid hb7
  clear hown7 hg7 hv7 hb7 hen bI HS1 HO1 HFIT HG7
  obtain ⟨A70, c70, rfl, -, -⟩ := own_shape HEN.out.own
  go_wp2
  go_loopg [7, 8, 36] (rs.length + 1) (fun g v7 v8 v36 wr => QrR w w1.heap.size rs ins g v7 v8 v36 wr)
  case atStart => exact ⟨0, ins, [], fun _ => False, Nat.zero_le _, by omega, rfl, by rw [List.drop_zero]; rfl, rfl, rfl, HEN.out, XOwn.nil _ _, by omega, HB7.out, HGD.out, fun x hx => by cases hx⟩
  case round =>
    clear HEN HB7
    obtain ⟨k, env, l, T, hk, hgk, rfl, hru, hel, hll, hen, hown, hbs, hbel, hgd, hval⟩ := hrel
    obtain ⟨A4, c4, rfl, hc4, hm4⟩ := hown.shape
    obtain ⟨A7, c7, rfl, hc7, hm7⟩ := own_shape hen.own
    have HEL := Lib.hid hel
    have HLL := Lib.hid hll
    have HOW := Lib.hid hown
    have HEN := Lib.hid hen
    have HVAL := Lib.hid hval
    have HGE := Lib.hid hgd
    have hl16 : l.length ≤ 16 := by omega
    have he80 : env.length ≤ 80 := by omega
    clear hel hll hown hen hval hgd
    by_cases hlt : k < rs.length
    case neg =>
      obtain rfl : k = rs.length := by omega
      rw [List.drop_length] at hru
      have hP4 := HP3.out
      rw [← hru] at hP4
      have HP4 := Lib.hid (show rulP rs ins = match kndG env l 0 with | some (i, e) => ([], i, e) | none => (l, 0, 0) from hP4)
      have HB := Lib.hid hbel
      clear hru hP4 HP3 hlt hbel
      go_wp2
      go_loopg [83] (l.length + 1) (fun g v wq => QkR wr env l g v wq)
      case atStart => exact ⟨0, Nat.zero_le _, by omega, rfl, by rw [List.drop_zero]; rfl, Below.refl _ _⟩
      case round =>
        rename World => wq
        obtain ⟨j, hj, hgj, rfl, hkn, hbq⟩ := hrel
        have HBQ := Lib.hid (below_two HB.out hbq HB.out.size)
        have HOQ := Lib.hid (HOW.out.below hbq (Nat.le_refl _))
        have HEQ := Lib.hid (HEN.out.below hbq (Nat.le_refl _))
        by_cases hjl : j < l.length
        case neg =>
          obtain rfl : j = l.length := by omega
          rw [List.drop_length] at hkn
          have hP5 := HP4.out
          rw [← hkn] at hP5
          have HP5 := Lib.hid (show rulP rs ins = (l, 0, 0) from hP5)
          clear hkn hP5 HP4 hbq hjl
          go_wp2
          exact bodyPost_ret (v := .tuple #[.slice A4 l.length c4, .int .i64 0, .int .i64 0]) (by simp [results, Tryz.results12, go_sem]) rfl ⟨_, l, 0, 0, T, HP5.out, rfl, HOQ.out.base hs1, HBQ.out⟩
        obtain ⟨b, o, op, m, nm, A5, c5, ys, hA, hSb, hx, hyc, hym, hyp, hyr, hxb⟩ := exAt (HOQ.out.rw (S := fun b => b < wq.heap.size) rfl fun b _ h => h) hjl
        subst hA
        have hget : l[j] = .mk op m nm ys := by
          rw [List.getElem?_eq_getElem hjl] at hx
          injection hx
        rw [List.drop_eq_getElem_cons hjl, hget] at hkn
        rw [kndG_cons] at hkn
        have hv := HVAL.out _ (List.mem_of_getElem? hx)
        obtain ⟨e0, e1, e2, e3⟩ := hxb
        have hbw := box_below wq (Obj.cells #[.int .i64 op, .int .i64 m, .string ⟨nm.toArray⟩, .slice A5 ys.length c5] 25)
        have hX := XV.new wq op m nm A5 ys.length c5
        have hXI : XI wq op m nm A5 c5 ys := ⟨hyc, hym, hyp, hyr⟩
        have C3 := rCheck_any (hXI.below hbw) (fun d hd => valid_small hv d hd) A7 c7 env hc7 hm7 ((HEQ.out.below hbw (Nat.le_refl _)).row rfl)
        rw [show checkP (.mk op m nm ys) env = chkG env 16 (.mk op m nm ys) from if_neg (by rw [HGE.out, hv]; rintro (q | q) <;> cases q)] at C3
        have HC3 := Lib.hid C3
        have HBW := Lib.hid (below_two HBQ.out hbw HBQ.out.size)
        have HBW2 := Lib.hid (below_two hbq hbw hbq.size)
        have HKN := Lib.hid hkn
        obtain ⟨x0, x1, x2, x3, -, -, -, -⟩ := hX.cells
        clear hkn hx hget hv hbw C3 hX hbq hyr hXI
        generalize hq : chkG env 16 (.mk op m nm ys) = q at *
        obtain ⟨q1, q2⟩ := q
        dsimp only at HKN HC3
        clear hq
        go_wp2_with fail
        refine HC3.out.mono ?_
        rintro e w3 ⟨rfl, hb3⟩
        have HB3 := Lib.hid (below_two HBW.out hb3 HBW.out.size)
        have HB4 := Lib.hid (below_two HBW2.out hb3 HBW2.out.size)
        clear hb3 HC3
        dsimp only
        have hkn := HKN.out
        have hP5 := HP4.out
        by_cases h2 : q2 = 0
        case neg =>
          rw [if_pos h2] at hkn
          rw [← hkn] at hP5
          have HP5 := Lib.hid (show rulP rs ins = ([], (j : Int), q2) from hP5)
          have k2 : (q2 != 0) = true := by simp [h2]
          clear hkn hP5 HP4 HKN h2
          go_wp2
          exact bodyPost_ret (v := .tuple #[.slice Option.none 0 0, .int .i64 (j : Int), .int .i64 q2]) (by simp [results, Tryz.results12, go_sem]) rfl (RetRul.none HP5.out HB3.out)
        rw [if_neg (by simp [h2])] at hkn
        have k2 : (q2 != 0) = false := by simp [h2]
        by_cases h1 : q1 = 1
        case neg =>
          rw [if_pos h1] at hkn
          rw [← hkn] at hP5
          have HP5 := Lib.hid (show rulP rs ins = ([], (j : Int), 10) from hP5)
          have k1 : (q1 != 1) = true := by simp [h1]
          clear hkn hP5 HP4 HKN h1 h2
          go_wp2
          exact bodyPost_ret (v := .tuple #[.slice Option.none 0 0, .int .i64 (j : Int), .int .i64 10]) (by simp [results, Tryz.results12, go_sem]) rfl (RetRul.none HP5.out HB3.out)
        rw [if_neg (by simp [h1])] at hkn
        have k1 : (q1 != 1) = false := by simp [h1]
        have HKN2 := Lib.hid hkn
        clear hkn hP5 HKN h1 h2
        go_wp2
        go_roundg (l.length - j)
        case measure => omega
        case rel => exact ⟨j + 1, by omega, by omega, by go_num, HKN2.out, HB4.out⟩
    obtain ⟨b, o, r, hA, hSb, hx, hxl, htl, y0, y1⟩ := rlAt (HR.out.mono RlC.mono (fun _ q => q) (keepOn_below hbel fun _ q => q)) hlt
    subst hA
    have hget : rs[k] = r := by
      rw [List.getElem?_eq_getElem hlt] at hx
      injection hx
    rw [List.drop_eq_getElem_cons hlt, hget] at hru
    rw [rulG_cons] at hru
    obtain ⟨nm, tx⟩ := r
    dsimp only at hxl htl y0 y1 hru
    have hbk : b < wr.heap.size := Nat.lt_of_lt_of_le hSb hbel.size
    have hbx := box_below wr (Obj.cells #[.string ⟨nm.toArray⟩, .string ⟨tx.toArray⟩] 34)
    have HN := Lib.hid (fun W => rname_any nm W hxl)
    have HBX := Lib.hid hbx
    have HB := Lib.hid (below_two hbel hbx hbel.size)
    have HRU := Lib.hid hru
    have hP4 := HP3.out
    have hnew : (wr.alloc (Obj.cells #[.string ⟨nm.toArray⟩, .string ⟨tx.toArray⟩] 34)).heap[wr.heap.size]? = some (.cells #[.string ⟨nm.toArray⟩, .string ⟨tx.toArray⟩] 34 (0, 0)) := heap_alloc_new wr _
    have HNEW := Lib.hid hnew
    clear hbx hru hx hget hbel hnew
    generalize hnb : nameB nm = nb at *
    have HNB := Lib.hid hnb
    clear hnb
    cases nb with
    | false =>
      have hru := HRU.out
      rw [if_pos rfl] at hru
      rw [← hru] at hP4
      have HP5 := Lib.hid (show rulP rs ins = ([], (k : Int), 7) from hP4)
      clear hru hP4 HP3 HRU
      go_wp2_with fail
      refine (HN.out _).mono ?_
      rintro e w5 ⟨rfl, hb5⟩
      have HB5 := Lib.hid (below_two HB.out hb5 HB.out.size)
      clear hb5
      go_wp2
      exact bodyPost_ret (v := .tuple #[.slice Option.none 0 0, .int .i64 (k : Int), .int .i64 7]) (by simp [results, Tryz.results12, go_sem]) rfl (RetRul.none HP5.out HB5.out)
    | true =>
    have hru := HRU.out
    rw [if_neg (show ¬ (true = false) from by decide)] at hru
    have HRU1 := Lib.hid hru
    clear hru HRU hP4
    go_wp2_with fail
    refine (HN.out _).mono ?_
    rintro e w5 ⟨rfl, hb5⟩
    have HB5 := Lib.hid (below_two HB.out hb5 HB.out.size)
    have HBX5 := Lib.hid (below_two HBX.out hb5 HBX.out.size)
    have HB5b := Lib.hid hb5
    have hs5 := HBX5.out.size
    have hsw5 := hb5.size
    rw [World.size_alloc] at hsw5
    clear hb5 HBX HB
    go_wp2
    go_loopg [48] (env.length + 1) (fun g v wq => QnR w5 env nm g v wq)
    case atStart => exact ⟨0, Nat.zero_le _, by omega, rfl, fun i y h => absurd h (Nat.not_lt_zero _), Below.refl _ _⟩
    case round =>
      rename World => wq
      obtain ⟨j, hj, hgj, rfl, hall, hbq⟩ := hrel
      have HALL := Lib.hid hall
      have hsq := hbq.size
      have HBQ := Lib.hid (below_two HB5.out hbq HB5.out.size)
      have HBXQ := Lib.hid (below_two HBX5.out hbq HBX5.out.size)
      have HBQ0 := Lib.hid hbq
      have hnw := ((below_two HB5b.out hbq HB5b.out.size).block wr.heap.size (by rw [World.size_alloc]; omega)).trans HNEW.out
      have z0 : wq.cell? ⟨wr.heap.size, 0, Option.none⟩ = some (.string ⟨nm.toArray⟩) := by rw [cell_of_row _ _ 0 _ _ (0, 0) hnw]; rfl
      have z1 : wq.cell? ⟨wr.heap.size, 1, Option.none⟩ = some (.string ⟨tx.toArray⟩) := by rw [cell_of_row _ _ 1 _ _ (0, 0) hnw]; rfl
      have hrq : wr.heap.size < wq.heap.size := (Array.getElem?_eq_some_iff.1 hnw).1
      have HNW := Lib.hid hnw
      clear hall hbq hnw
      by_cases hjl : j < env.length
      case pos =>
        obtain ⟨b', o', s', hA', -, hx', hxl', hxw', u0, u1⟩ := sgAt ((HEN.out.below HBXQ.out (Nat.le_refl _)).row rfl) hjl
        subst hA'
        obtain ⟨nm', kd'⟩ := s'
        dsimp only at hxl' hxw' u0 u1
        have HBA := Lib.hid (below_two HBQ.out (box_below wq (Obj.cells #[.string ⟨nm'.toArray⟩, .int .i64 kd'] 69)) HBQ.out.size)
        have HBA0 := Lib.hid (below_two HBQ0.out (box_below wq (Obj.cells #[.string ⟨nm'.toArray⟩, .int .i64 kd'] 69)) HBQ0.out.size)
        have HX' := Lib.hid hx'
        clear hx'
        by_cases he : nm' = nm
        · have e1 : (nm' == nm) = true := by simp [he]
          subst he
          have hru := HRU1.out
          have hk8 : (kindOf env nm').isSome = true := kindOf_hit HX'.out
          rw [if_pos hk8] at hru
          have hP4 := HP3.out
          rw [← hru] at hP4
          have HP5 := Lib.hid (show rulP rs ins = ([], (k : Int), 8) from hP4)
          clear hru hP4 HP3 HRU1 hk8
          go_wp2
          exact bodyPost_ret (v := .tuple #[.slice Option.none 0 0, .int .i64 (k : Int), .int .i64 8]) (by simp [results, Tryz.results12, go_sem]) rfl (RetRul.none HP5.out HBA.out)
        · have e1 : (nm' == nm) = false := by simp [he]
          have HSU := Lib.hid (ge_succ HALL.out HX'.out he)
          clear he
          go_wp2
          go_roundg (env.length - j)
          case measure => omega
          case rel => exact ⟨j + 1, by omega, by omega, by go_num, HSU.out, HBA0.out⟩
      obtain rfl : j = env.length := by omega
      have hko := kindOf_miss HALL.out
      have hru := HRU1.out
      rw [hko, if_neg (show ¬ ((Option.none : Option Int).isSome = true) from by decide)] at hru
      have HKO := Lib.hid hko
      have HC := Lib.hid (rparse_in tx wq)
      have HVP := Lib.hid (fun h => parse_valid (t := tx) h)
      unfold RetPq at HC
      generalize parseP tx = r at *
      obtain ⟨x, a, er⟩ := r
      dsimp only at HC HVP hru
      have HRU2 := Lib.hid hru
      have hP4 := HP3.out
      clear hru hko HRU1
      go_wp2_with fail
      refine HC.out.mono ?_
      rintro e w2 ⟨op, n, nm2, A2, c2, ks, hx2, rfl, hxi2, hb2, hr2⟩
      subst hx2
      have hs2 := hb2.size
      have hbx2 := box_below w2 (Obj.cells #[.int .i64 op, .int .i64 n, .string ⟨nm2.toArray⟩, .slice A2 ks.length c2] 25)
      have hb2x := below_two hb2 hbx2 hb2.size
      have HB2 := Lib.hid (below_two HBQ.out hb2x HBQ.out.size)
      have HB2R := Lib.hid (below_two HBXQ.out hb2x HBXQ.out.size)
      have HNW2 := Lib.hid ((hb2x.block wr.heap.size hrq).trans HNW.out)
      have hru := HRU2.out
      by_cases he : er = 0
      case neg =>
        rw [if_pos he] at hru
        rw [← hru] at hP4
        have HP5 := Lib.hid (show rulP rs ins = ([], (k : Int), er) from hP4)
        have k2 : (er != 0) = true := by simp [he]
        clear hru hP4 HP3 HRU2 he z0 z1
        go_wp2
        exact bodyPost_ret (v := .tuple #[.slice Option.none 0 0, .int .i64 (k : Int), .int .i64 er]) (by simp [results, Tryz.results12, go_sem]) rfl (RetRul.none HP5.out HB2.out)
      rw [if_neg (by simp [he])] at hru
      have k2 : (er != 0) = false := by simp [he]
      have HVX := Lib.hid (HVP.out he)
      have HRU3 := Lib.hid hru
      have HGE2 := Lib.hid (good_snoc HGE.out HNB.out HKO.out)
      clear hru HRU2 he hP4 HVP z0 z1 HALL
      obtain ⟨ls, hls, hown5, hvs5, hT5⟩ := HOW.out.below HB2R.out (Nat.le_refl _)
      have HE5 := Lib.hid (HEN.out.below HB2R.out (Nat.le_refl _))
      have HG8 := Lib.hid (show ∀ g, (Value.slice A4 l.length c4).ownBlock = some g → w1.heap.size ≤ g ∧ g < wr.heap.size from fun g hg => HOW.out.lt hg)
      have HG7 := Lib.hid (show ∀ g, (Value.slice A7 env.length c7).ownBlock = some g → w1.heap.size ≤ g ∧ g < wr.heap.size from fun g hg => HEN.out.own.lt g hg)
      have HAP := Lib.hid HEN.out.apart
      have HFIT := Lib.hid HEN.out.fit
      have HTW := Lib.hid (show ∀ q, T q → q < wr.heap.size from fun q hq => by obtain ⟨_, _, _, _, h4⟩ := HOW.out; exact (h4 q hq).2.1)
      have HR2 := Lib.hid (hr2.mono ExV.mono (fun b q => q) (keepOn_below (S := New wq w2) hbx2 fun b q => q.2))
      have HLS := Lib.hid hls
      have HOW5 := Lib.hid (hown5.alloc (Obj.cells #[.int .i64 op, .int .i64 n, .string ⟨nm2.toArray⟩, .slice A2 ks.length c2] 25))
      have HV5 := Lib.hid hvs5
      have HT5 := Lib.hid hT5
      have hsr := (src_box (w2.alloc (Obj.cells #[.int .i64 op, .int .i64 n, .string ⟨nm2.toArray⟩, .slice A2 ks.length c2] 25)) [.int .i64 op, .int .i64 n, .string ⟨nm2.toArray⟩, .slice A2 ks.length c2] 25 4 1 rfl)
      rw [World.size_alloc] at hsr
      have HSR := Lib.hid hsr
      clear hsr
      have hXP : ExP op n nm2 := hxi2.hp
      have hxc := hxi2.hc
      have hxm := hxi2.hm
      have HBS := Lib.hid (show w1.heap.size ≤ ((w2.alloc (Obj.cells #[.int .i64 op, .int .i64 n, .string ⟨nm2.toArray⟩, .slice A2 ks.length c2] 25)).alloc (Obj.cells #[.int .i64 op, .int .i64 n, .string ⟨nm2.toArray⟩, .slice A2 ks.length c2] 25)).heap.size by simp only [World.size_alloc]; omega)
      have HM1 := Lib.hid (show l.length + 1 ≤ maxLen by unfold maxLen; omega)
      have HM2 := Lib.hid (show (l.length + 1) * 56 ≤ 140737488355328 by omega)
      have HM3 := Lib.hid (show env.length + 1 ≤ maxLen by unfold maxLen; omega)
      have HM4 := Lib.hid (show (env.length + 1) * 24 ≤ 140737488355328 by omega)
      have ON3 := Lib.hid (sgCells_one1 ⟨nm, 1⟩)
      obtain ⟨ti, hti, hzi⟩ := Option.map_eq_some_iff.1 infoX
      obtain ⟨hz0, hz1, hz2⟩ : ti.zero = some (.agg #[.int .i64 0, .int .i64 0, .string ⟨#[]⟩, .slice Option.none 0 0]) ∧ ti.size = 4 ∧ ti.bytes = 56 := by simpa using hzi
      have HTI := Lib.hid (And.intro hti (And.intro hz0 (And.intro hz1 hz2)))
      have xx := (XV.new w2 op n nm2 A2 ks.length c2).cells
      obtain ⟨x0, x1, x2, x3, -, -, -, -⟩ := xx
      clear hti hzi hz0 hz1 hz2 hls hown5 hvs5 hT5 hr2 hb2 hbx2 hb2x hxi2 HC HNEW
      go_wp2_with (at_builtin; first
        | (refine wpList_append_grown (o := ⟨some 73, _, _, _, _, _⟩) (w := (w2.alloc (Obj.cells #[.int .i64 op, .int .i64 n, .string ⟨nm2.toArray⟩, .slice A2 ks.length c2] 25)).alloc (Obj.cells #[.int .i64 op, .int .i64 n, .string ⟨nm2.toArray⟩, .slice A2 ks.length c2] 25)) _ _ 23 rfl rfl Tryz.underlying23 HTI.out.1 HTI.out.2.1 HTI.out.2.2.1 HTI.out.2.2.2 rfl (by decide) rfl HOW5.out rfl HSR.out (xl_one ⟨op, n, nm2, A2, ks.length, c2⟩) HM1.out HM2.out HBS.out ?_; intro v6 w6 hown6 hg6 hv6; have hg6' : ((w2.alloc (Obj.cells #[.int .i64 op, .int .i64 n, .string ⟨nm2.toArray⟩, .slice A2 ks.length c2] 25)).alloc (Obj.cells #[.int .i64 op, .int .i64 n, .string ⟨nm2.toArray⟩, .slice A2 ks.length c2] 25)).grownBy w6 (Value.slice A4 l.length c4).ownBlock := hg6; obtain ⟨A6, c6, hv6e, hc6, hm6⟩ := own_shape hown6; have HG6 := Lib.hid hg6'; have HOW6 := Lib.hid hown6; have HV6 := Lib.hid hv6; have n6 := hg6'.block wr.heap.size (by simp only [World.size_alloc]; omega) (fun q => by have := (HG8.out _ q.symm).2; omega); have n6b : w6.heap[wr.heap.size]? = some (.cells #[.string ⟨nm.toArray⟩, .string ⟨tx.toArray⟩] 34 (0, 0)) := n6.trans ((Lib.alloc_old _ _ _ (by rw [World.size_alloc]; omega)).trans HNW2.out); have z6 : w6.cell? ⟨wr.heap.size, 0, Option.none⟩ = some (.string ⟨nm.toArray⟩) := (by rw [cell_of_row _ _ 0 _ _ (0, 0) n6b]; rfl); have h6l := (Array.getElem?_eq_some_iff.1 n6b).1; have hs6 := hg6'.size; have HE6 := Lib.hid ((own_heap (HE5.out.own.alloc _) (fun g e hgs => hg6'.block g hgs (fun q => (HAP.out g e).1 q.symm))).alloc (Obj.cells #[.string ⟨nm.toArray⟩, .int .i64 1] 69)); have HSG := Lib.hid (src_box w6 (sgCells ⟨nm, 1⟩) 69 2 1 rfl); have HB6 := Lib.hid (show w1.heap.size ≤ (w6.alloc (Obj.cells #[.string ⟨nm.toArray⟩, .int .i64 1] 69)).heap.size by simp only [World.size_alloc] at hs6 ⊢; omega); clear hown6 hg6 hg6' hv6 n6 n6b x0 x1 x2 x3; subst hv6e)
        | (refine wpList_append_grown (o := ⟨some 79, _, _, _, _, _⟩) (w := w6.alloc (Obj.cells #[.string ⟨nm.toArray⟩, .int .i64 1] 69)) _ _ 32 rfl rfl Tryz.underlying32 HI.out.1 HI.out.2.1 HI.out.2.2.1 HI.out.2.2.2 rfl (by decide) rfl HE6.out rfl HSG.out ON3.out HM3.out HM4.out HB6.out ?_; intro v9 w9 hown9 hg9 hv9))
      all_goals
        obtain ⟨A9, c9, hv9e, hc9, hm9⟩ := own_shape hown9
        subst hv9e
        have HOW9 := Lib.hid hown9
        have HG9 := Lib.hid (show (w6.alloc (Obj.cells #[.string ⟨nm.toArray⟩, .int .i64 1] 69)).grownBy w9 (Value.slice A7 env.length c7).ownBlock from hg9)
        have HV9 := Lib.hid (show (Value.slice A9 (env.length + 1) c9).ownBlock = (Value.slice A7 env.length c7).ownBlock ∨ (Value.slice A9 (env.length + 1) c9).ownBlock = some (w6.alloc (Obj.cells #[.string ⟨nm.toArray⟩, .int .i64 1] 69)).heap.size from hv9)
        have HV6' := Lib.hid (show (Value.slice A6 (l.length + 1) c6).ownBlock = (Value.slice A4 l.length c4).ownBlock ∨ (Value.slice A6 (l.length + 1) c6).ownBlock = some ((w2.alloc (Obj.cells #[.int .i64 op, .int .i64 n, .string ⟨nm2.toArray⟩, .slice A2 ks.length c2] 25)).alloc (Obj.cells #[.int .i64 op, .int .i64 n, .string ⟨nm2.toArray⟩, .slice A2 ks.length c2] 25)).heap.size from HV6.out)
        have HG6' := Lib.hid (show ((w2.alloc (Obj.cells #[.int .i64 op, .int .i64 n, .string ⟨nm2.toArray⟩, .slice A2 ks.length c2] 25)).alloc (Obj.cells #[.int .i64 op, .int .i64 n, .string ⟨nm2.toArray⟩, .slice A2 ks.length c2] 25)).grownBy w6 (Value.slice A4 l.length c4).ownBlock from HG6.out)
        clear hown9 hg9 hv9 HV6 HG6
        go_roundg (rs.length - k)
        case measure => omega
        case rel =>
          have hs6 := HG6'.out.size
          simp only [World.size_alloc] at hs6
          have hs9 := HG9.out.size
          simp only [World.size_alloc] at hs9
          have kb := keepOn_below (S := fun b => b < (w2.alloc (Obj.cells #[.int .i64 op, .int .i64 n, .string ⟨nm2.toArray⟩, .slice A2 ks.length c2] 25)).heap.size) (box_below (w2.alloc (Obj.cells #[.int .i64 op, .int .i64 n, .string ⟨nm2.toArray⟩, .slice A2 ks.length c2] 25)) (Obj.cells #[.int .i64 op, .int .i64 n, .string ⟨nm2.toArray⟩, .slice A2 ks.length c2] 25)) (fun b hb => hb)
          have hO6 := XOwn.push (T := fun b => T b ∨ New wq w2 b) (xs := l) (l := ⟨op, n, nm2, A2, ks.length, c2⟩) (y := .mk op n nm2 ks) HLS.out
            (fun k l x hl hx => ExV.mono _ _ _ _ _ _ (fun b hb => .inl hb) (kb.mono fun b hb => (HT5.out b hb).2.1) (HV5.out k l x hl hx))
            (fun b hb => by
              rcases hb with hb | hb
              · have := HT5.out b hb
                exact ⟨this.1, by have := this.2.1; simp only [World.size_alloc] at this ⊢; omega, this.2.2⟩
              · have h1 := hb.1
                have h2 := hb.2
                refine ⟨by omega, by simp only [World.size_alloc]; omega, fun q => ?_⟩
                have := (HG8.out _ q.symm).2
                omega)
            (ExV.mono _ _ _ _ _ _ (fun b hb => .inr hb) (kb.mono fun b hb => by have := hb.2; simp only [World.size_alloc]; omega) (ExV.mk hxc hxm hXP HR2.out)) HOW6.out HG6'.out HV6'.out
          have hap6 : ∀ g, (Value.slice A7 env.length c7).ownBlock = some g → (Value.slice A6 (l.length + 1) c6).ownBlock ≠ some g ∧ ¬ (T g ∨ New wq w2 g) := by
            intro g hg
            have h7 := (HG7.out g hg).2
            refine ⟨fun q => ?_, fun q => ?_⟩
            · rcases HV6'.out with e | e
              · exact (HAP.out g hg).1 (e.symm.trans q)
              · rw [e] at q
                injection q with q
                simp only [World.size_alloc] at q
                omega
            · rcases q with q | q
              · exact (HAP.out g hg).2 q
              · have := q.1
                omega
          have hO9 := (hO6.below (box_below w6 (Obj.cells #[.string ⟨nm.toArray⟩, .int .i64 1] 69)) (Nat.le_refl _)).apart HG9.out hap6
          have hen9 : EnO w9 w1.heap.size (fun b => T b ∨ New wq w2 b) (.slice A9 (env.length + 1) c9) (.slice A6 (l.length + 1) c6) (env ++ [⟨nm, 1⟩]) := by
            refine ⟨?_, fun s hs => ?_, fun g hg => ?_⟩
            · rw [List.flatMap_append, List.length_append, show [(⟨nm, 1⟩ : Sg)].flatMap sgCells = sgCells ⟨nm, 1⟩ from List.append_nil _]
              exact HOW9.out
            · rcases List.mem_append.1 hs with q | q
              · exact HFIT.out s q
              · rw [List.mem_singleton.1 q]; exact ⟨hxl, (show (Lit.int .i64 1).wf = true from rfl)⟩
            · rcases HV9.out with e | e
              · exact hap6 g (e.symm.trans hg)
              · rw [e] at hg
                injection hg with hg
                rw [World.size_alloc] at hg
                refine ⟨fun q => ?_, fun q => ?_⟩
                · have := (HOW6.out.lt g q).2
                  omega
                · rcases q with q | q
                  · have := HTW.out g q
                    omega
                  · have := q.2
                    omega
          have hb6 : Below w.heap.size w w6 := (HB2.out.alloc (by have := HB2.out.size; exact this) (Obj.cells #[.int .i64 op, .int .i64 n, .string ⟨nm2.toArray⟩, .slice A2 ks.length c2] 25)).grown HG6'.out (by have := (HB2.out.alloc (by have := HB2.out.size; exact this) (Obj.cells #[.int .i64 op, .int .i64 n, .string ⟨nm2.toArray⟩, .slice A2 ks.length c2] 25)).size; exact this) (fun j hj => by have := (HG8.out j hj).1; omega)
          have hb9 : Below w.heap.size w w9 := (hb6.alloc (by have := hb6.size; exact this) (Obj.cells #[.string ⟨nm.toArray⟩, .int .i64 1] 69)).grown HG9.out (by have := (hb6.alloc (by have := hb6.size; exact this) (Obj.cells #[.string ⟨nm.toArray⟩, .int .i64 1] 69)).size; exact this) (fun j hj => by have := (HG7.out j hj).1; omega)
          refine ⟨k + 1, env ++ [⟨nm, 1⟩], l ++ [.mk op n nm2 ks], _, by omega, by omega, by go_num, HRU3.out, by have := HEL.out; simp only [List.length_append, List.length_singleton]; omega, by have := HLL.out; simp only [List.length_append, List.length_singleton]; omega, hen9, hO9, by omega, hb9, HGE2.out, fun x hx => ?_⟩
          rcases List.mem_append.1 hx with q | q
          · exact HVAL.out x q
          · rw [List.mem_singleton.1 q]; exact HVX.out
end Go.Proofs.YtmbmngnnfkdngaaGreatDoor

/-
  The law EquationRules: for all rules and inputs the call returns true.
-/
namespace Go.Proofs.YtmbmngnnfkdngaaGreatDoor
open Go.RowKit

def LfR (W0 : World) (n : Nat) (g : Nat) (v : Value) (wr : World) : Prop := ∃ k : Nat, k ≤ n ∧ n - k < g ∧ v = .int .i64 (k : Int) ∧ Below W0.heap.size W0 wr

set_option maxRecDepth 100000 in
set_option maxHeartbeats 8000000 in
theorem rulesL_any (A : Option Addr) (c : Nat) (rs : List Rl) (A' : Option Addr) (c' : Nat) (ins : List Sg) (w : World) (hw : Lw w) (hc : rs.length ≤ c) (hm : c ≤ maxLen) (hr : Rw RlC 2 w (fun b => b < w.heap.size) A rs.length rs)
    (hc' : ins.length ≤ c') (hm' : c' ≤ maxLen) (hr' : Rw SgC 2 w (fun b => b < w.heap.size) A' ins.length ins) :
    Calls Tryz.prog 4 #[.slice A rs.length c, .slice A' ins.length c'] w (RetB true w) := by
  have HW := Lib.hid hw
  have HR := Lib.hid hr
  have HRI := Lib.hid hr'
  have HC := Lib.hid hc
  have HM := Lib.hid hm
  have HC' := Lib.hid hc'
  have HM' := Lib.hid hm'
  unfold maxLen at hm hm'
  clear hr hr' hw
  by_cases hbig : 20 < rs.length ∨ 70 < ins.length
  · have hcs : (20 : Int) < (rs.length : Int) ∨ ¬ (20 : Int) < (rs.length : Int) ∧ (70 : Int) < (ins.length : Int) := by omega
    have HK := Lib.hid (known_any w HW.out)
    clear hbig
    rcases hcs with d0 | ⟨d0, d1⟩
    all_goals
      go_enter Tryz.func4, Tryz.ntmps4
      go_wp2_with fail
      refine HK.out.mono ?_
      rintro e w3 ⟨rfl, hb3⟩
      go_wp2
      go_ret
      exact ⟨rfl, hb3⟩
  have d0 : ¬ (20 : Int) < (rs.length : Int) := by omega
  have d1 : ¬ (70 : Int) < (ins.length : Int) := by omega
  clear hbig
  go_enter Tryz.func4, Tryz.ntmps4
  go_wp2
  go_loopg [25] (rs.length + 1) (fun g v wr => LfR w rs.length g v wr)
  case atStart => exact ⟨0, Nat.zero_le _, by omega, rfl, Below.refl _ _⟩
  case round =>
    obtain ⟨k, hk, hgk, rfl, hbel⟩ := hrel
    have hsz := hbel.size
    by_cases hlt : k < rs.length
    case pos =>
      obtain ⟨b, o, r, hA, hSb, hx, hxl, htl, y0, y1⟩ := rlAt (HR.out.mono RlC.mono (fun _ q => q) (keepOn_below hbel fun _ q => q)) hlt
      subst hA
      obtain ⟨nm, tx⟩ := r
      dsimp only at hxl htl y0 y1
      unfold maxLen at hxl htl
      have hbk : b < wr.heap.size := Nat.lt_of_lt_of_le hSb hsz
      have HB := Lib.hid (below_two hbel (box_below wr (Obj.cells #[.string ⟨nm.toArray⟩, .string ⟨tx.toArray⟩] 34)) hsz)
      have HK := Lib.hid (known_any _ (HW.out.below HB.out))
      clear hbel hx hSb
      by_cases h1 : 200 < tx.length
      · have t1 : (200 : Int) < (tx.length : Int) := by omega
        clear h1
        go_wp2_with fail
        refine HK.out.mono ?_
        rintro e w3 ⟨rfl, hb3⟩
        go_wp2
        go_ret
        exact ⟨rfl, below_two HB.out hb3 HB.out.size⟩
      have t1 : ¬ (200 : Int) < (tx.length : Int) := by omega
      by_cases h2 : 60 < nm.length
      · have t2 : (60 : Int) < (nm.length : Int) := by omega
        clear h1 h2
        go_wp2_with fail
        refine HK.out.mono ?_
        rintro e w3 ⟨rfl, hb3⟩
        go_wp2
        go_ret
        exact ⟨rfl, below_two HB.out hb3 HB.out.size⟩
      have t2 : ¬ (60 : Int) < (nm.length : Int) := by omega
      clear h1 h2 HK
      go_wp2
      go_roundg (rs.length - k)
      case measure => omega
      case rel => exact ⟨k + 1, by omega, by omega, by go_num, HB.out⟩
    obtain rfl : k = rs.length := by omega
    have HC1 := Lib.hid (rules_any A c rs A' c' ins wr (HW.out.below hbel) HC.out HM.out (HR.out.mono RlC.mono (fun _ q => Nat.lt_of_lt_of_le q hsz) (keepOn_below hbel fun _ q => q)) HC'.out HM'.out (HRI.out.mono SgC.mono (fun _ q => Nat.lt_of_lt_of_le q hsz) (keepOn_below hbel fun _ q => q)))
    have HB := Lib.hid hbel
    clear hbel hlt
    go_wp2_with fail
    refine HC1.out.mono ?_
    rintro e w1 ⟨v1, xs, a, er, T, hp, rfl, hown1, hb1⟩
    have hb1' := below_two HB.out hb1 HB.out.size
    have hsz1 := hb1'.size
    have HC2 := Lib.hid (rrules_any A c rs A' c' ins w1 (HR.out.mono RlC.mono (fun _ q => Nat.lt_of_lt_of_le q hsz1) (keepOn_below hb1' fun _ q => q)) HC'.out HM'.out (HRI.out.mono SgC.mono (fun _ q => Nat.lt_of_lt_of_le q hsz1) (keepOn_below hb1' fun _ q => q)))
    have HB1 := Lib.hid hb1'
    have HO1 := Lib.hid hown1
    have HP := Lib.hid hp
    clear hb1 hb1' hown1 hp HC1
    go_wp2_with fail
    refine HC2.out.mono ?_
    rintro e w2 ⟨v2, xs2, a2, er2, T2, hp2, rfl, hown2, hb2⟩
    rw [HP.out] at hp2
    obtain ⟨rfl, rfl, rfl⟩ : xs = xs2 ∧ a = a2 ∧ er = er2 := by injection hp2 with q1 q2; injection q2 with q2 q3; exact ⟨q1, q2, q3⟩
    have HB2 := Lib.hid (below_two HB1.out hb2 HB1.out.size)
    have hO1 := HO1.out.below hb2 (Nat.le_refl _)
    obtain ⟨A1, c1, rfl, hc1, hm1⟩ := hO1.shape
    obtain ⟨A2, c2, rfl, hc2, hm2⟩ := hown2.shape
    have HO2 := Lib.hid hown2
    have HO1' := Lib.hid hO1
    have ea : (a != a) = false := by simp
    have ee : (er != er) = false := by simp
    have hxl : xs.length ≤ maxLen := Nat.le_trans hc1 hm1
    unfold maxLen at hxl
    have el : ((xs.length : Int) != (xs.length : Int)) = false := by simp
    clear hb2 hown2 hO1 hp2 HP HC2 HO1
    go_wp2
    go_loopg [72] (xs.length + 1) (fun g v wq => LfR w2 xs.length g v wq)
    case atStart => exact ⟨0, Nat.zero_le _, by omega, rfl, Below.refl _ _⟩
    case round =>
      rename World => wq
      obtain ⟨j, hj, hgj, rfl, hbq⟩ := hrel
      have HBQ := Lib.hid (below_two HB2.out hbq HB2.out.size)
      have HBQ0 := Lib.hid hbq
      by_cases hjl : j < xs.length
      case neg =>
        obtain rfl : j = xs.length := by omega
        have HK := Lib.hid (known_any _ (HW.out.below HBQ.out))
        clear hbq
        go_wp2_with fail
        refine HK.out.mono ?_
        rintro e w3 ⟨rfl, hb3⟩
        go_wp2
        go_ret
        exact ⟨rfl, below_two HBQ.out hb3 HBQ.out.size⟩
      obtain ⟨b, o, op, m, nm, A5, c5, ys, hA, hSb, hx, hyc, hym, hyp, hyr, hxb⟩ := exAt ((HO1'.out.below hbq (Nat.le_refl _)).rw (S := fun b => b < wq.heap.size) rfl fun b _ h => h) hjl
      subst hA
      obtain ⟨b2, o2, op2, m2, nm2, A6, c6, ys2, hA2, hSb2, hx2, hyc2, hym2, hyp2, hyr2, hxb2⟩ := exAt ((HO2.out.below hbq (Nat.le_refl _)).rw (S := fun b => b < wq.heap.size) rfl fun b _ h => h) hjl
      subst hA2
      rw [hx] at hx2
      injection hx2 with hx2
      injection hx2 with q1 q2 q3 q4
      subst q1
      subst q2
      subst q3
      subst q4
      have hI1 : XI wq op m nm A5 c5 ys := ⟨hyc, hym, hyp, hyr⟩
      have hI2 : XI wq op m nm A6 c6 ys := ⟨hyc2, hym2, hyp2, hyr2⟩
      have HSM := Lib.hid (same_in (hI1.below (below_drew (Below.refl _ _))) (hI2.below (below_drew (Below.refl _ _))))
      obtain ⟨e0, e1, e2, e3⟩ := hxb
      obtain ⟨g0, g1, g2, g3⟩ := hxb2
      clear hI1 hI2 hyr hyr2 hx hbq
      go_wp2
      go_region_law ((go_simp; go_at_call 8; refine HSM.out.mono ?_; rintro e' w7 ⟨rfl, hb7⟩; have HB7 := Lib.hid hb7; clear hb7))
      all_goals
        have HB8 := Lib.hid (below_two (below_drew HBQ0.out) HB7.out (below_drew HBQ0.out).size)
        go_wp2
        go_roundg (xs.length - j)
        case measure => omega
        case rel => exact ⟨j + 1, by omega, by omega, by go_num, HB8.out⟩
end Go.Proofs.YtmbmngnnfkdngaaGreatDoor

/-
  From the form's own reading of an argument ('DataW.trod') to the words of the Base text: structs field by field, slices as lists. No program is named here.
-/
namespace Go.Proofs.YtmbmngnnfkdngaaGreatDoor
open Go.RowKit Go.Deep

section
variable {H : Type} {enc : TypeId × Value → H} {P : Program} {w : World} {base : Nat} {spare : Nat → Bool} {held : Bool}

/-- A list of what is there for each place below n. -/
theorem list_of {α : Type} (p : Nat → α → Prop) : ∀ n : Nat, (∀ i, i < n → ∃ y, p i y) → ∃ l : List α, l.length = n ∧ ∀ k y, l[k]? = some y → p k y
  | 0, _ => ⟨[], rfl, fun k y h => by simp at h⟩
  | n + 1, h => by
    obtain ⟨l, hl, hp⟩ := list_of p n fun i hi => h i (by omega)
    obtain ⟨y, hy⟩ := h n (by omega)
    refine ⟨l ++ [y], by simp [hl], fun k z hz => ?_⟩
    rcases Nat.lt_or_ge k n with hk | hk
    · rw [List.getElem?_append_left (by omega)] at hz; exact hp k z hz
    · have hk' : k = n := by
        have := (List.getElem?_eq_some_iff.1 hz).1
        simp at this; omega
      subst hk'
      rw [List.getElem?_append_right (by omega)] at hz
      simp [hl] at hz
      subst hz; exact hy

/-- An address with a cell is a plain one. -/
theorem spot_none {a : Addr} {v : Value} (h : w.cell? a = some v) : a.spot = Option.none := by
  unfold World.cell? at h
  split at h
  · split at h
    · cases h
    · rename_i hs
      cases hsp : a.spot with
      | none => rfl
      | some x => rw [hsp] at hs; simp at hs
  · cases h

theorem sliceOf_trod {α : Type} {R : World → Nat → List Value → α → Prop} {t e : TypeId} {size fuel : Nat} {cs : List Value} {x : DataW H × List MemPlace} (hpos : 0 < size) (ht : P.underlying t = some (.slice e)) (hC : P.cellsOf e = size)
    (hel : ∀ (n : Nat) (ds : List Value) (y : DataW H × List MemPlace), ds.length = size → DataW.trod enc P w base spare held n e ds = some y → ∃ z, R w w.heap.size ds z)
    (h : DataW.trod enc P w base spare held fuel t cs = some x) : ∃ zs, SliceOf R size w w.heap.size cs zs := by
  rcases open_slice ht h with ⟨rfl, _⟩ | ⟨a, len, cap, m, n, D, Pl, rfl, hb, hl, hm, hmm, hx, hi⟩
  · exact ⟨[], Option.none, 0, rfl, Nat.le_refl _, Nat.zero_le _, rfl, fun h => absurd h (Nat.not_lt_zero _)⟩
  · have hlm : len ≤ m := by rw [hmm]; split <;> omega
    have hper : ∀ i, i < len → ∃ z, ∃ ds, ds.length = size ∧ R w w.heap.size ds z ∧ ∀ j v, ds[j]? = some v → w.cell? (a.add (i * size + j)) = some v := by
      intro i hil
      obtain ⟨ds, hds, htr⟩ := hi i (by omega)
      rw [hC] at hds
      obtain ⟨_, hdl, hat⟩ := World.cells?_some hds
      obtain ⟨z, hz⟩ := hel n ds _ hdl htr
      refine ⟨z, ds, hdl, hz, fun j v hv => ?_⟩
      have hj : j < size := by have := (List.getElem?_eq_some_iff.1 hv).1; omega
      have := hat j hj
      rw [Go.Deep.add_add] at this
      rw [this, hv]
    obtain ⟨zs, hzl, hzp⟩ := list_of _ len hper
    refine ⟨zs, some a, cap, by rw [hzl], by omega, hm, rfl, fun hn => ?_⟩
    obtain ⟨ds0, hd0, _, hc0⟩ := hzp 0 (zs[0]'(by omega)) (List.getElem?_eq_getElem (by omega))
    have hcell0 := hc0 0 (ds0[0]'(by omega)) (List.getElem?_eq_getElem (by omega))
    have ha : a = ⟨a.block, a.off, Option.none⟩ := by
      have : a.add (0 * size + 0) = a := by simp [Addr.add]
      rw [this] at hcell0
      have := spot_none hcell0
      cases a; simp_all
    have hblk : a.block < w.heap.size := by
      have : a.add (0 * size + 0) = a := by simp [Addr.add]
      rw [this] at hcell0
      exact block_lt_of_cell hcell0
    refine ⟨a.block, a.off, congrArg some ha, hblk, fun k z hz => ?_⟩
    obtain ⟨ds, hdl, hR, hat⟩ := hzp k z hz
    refine ⟨ds, hdl, hR, fun j v hv => ?_⟩
    have := hat j v hv
    rw [ha, Addr.add_mid] at this
    simpa [Nat.add_assoc] using this

/-- One field of one cell. -/
theorem field_one {t : TypeId} {fs : Array Field} {fuel : Nat} {cs : List Value} {x : DataW H × List MemPlace} (ht : P.underlying t = some (.struct fs)) (h : DataW.trod enc P w base spare held fuel t cs = some x)
    (i : Nat) {f : Field} (hf : fs[i]? = some f) (h1 : P.cellsOf f.type = 1) (hoff : f.offset < P.cellsOf t) :
    ∃ n v y, cs[f.offset]? = some v ∧ DataW.trod enc P w base spare held n f.type [v] = some y := by
  obtain ⟨xs, n, _, _, hlen, hxl, hg⟩ := DataW.trod_struct ht h
  have hif : i < fs.size := (Array.getElem?_eq_some_iff.1 hf).1
  have hgi := hg i f hf
  rw [h1] at hgi
  have hl : f.offset < cs.length := by omega
  have hone : (cs.drop f.offset).take 1 = [cs[f.offset]'hl] := by
    rw [List.drop_eq_getElem_cons hl]; rfl
  rw [hone, List.getElem?_eq_getElem (by omega)] at hgi
  exact ⟨n, _, _, List.getElem?_eq_getElem hl, hgi⟩
theorem trod_len {t : TypeId} {fs : Array Field} {fuel : Nat} {cs : List Value} {x : DataW H × List MemPlace} (ht : P.underlying t = some (.struct fs)) (h : DataW.trod enc P w base spare held fuel t cs = some x) : cs.length = P.cellsOf t := by
  obtain ⟨xs, n, _, _, hlen, _⟩ := DataW.trod_struct ht h
  exact hlen

/-- The fields of a struct, and of the structs in it, tile its cells. -/
def tiles (P : Program) : Nat → TypeId → Bool
  | 0, _ => false
  | d + 1, t => match P.underlying t with
    | some (.struct fs) => ((fs.toList.flatMap fun f => (List.range (P.cellsOf f.type)).map (f.offset + ·)) == List.range (P.cellsOf t)) && fs.toList.all fun f => tiles P d f.type
    | some (.array n e) => (n * P.cellsOf e == P.cellsOf t) && tiles P d e
    | _ => true

theorem trod_one : ∀ (d : Nat) (t : TypeId) (fuel : Nat) (cs : List Value) (x : DataW H × List MemPlace), tiles P d t = true → DataW.trod enc P w base spare held fuel t cs = some x → ∀ v ∈ cs, v.oneCell' = true := by
  intro d
  induction d with
  | zero => intro t fuel cs x ht; simp [tiles] at ht
  | succ d ih =>
    intro t fuel cs x htl h v hv
    cases hu : P.underlying t with
    | none =>
      cases fuel with
      | zero => simp [DataW.trod] at h
      | succ n => unfold DataW.trod at h; rw [hu] at h; simp at h
    | some desc =>
      by_cases hs : ∃ fs, desc = .struct fs
      · obtain ⟨fs, rfl⟩ := hs
        simp only [tiles, hu, Bool.and_eq_true, beq_iff_eq, List.all_eq_true] at htl
        obtain ⟨xs, n, _, _, hlen, hxl, hg⟩ := DataW.trod_struct hu h
        obtain ⟨j, hj⟩ := List.getElem?_of_mem hv
        have hjl : j < P.cellsOf t := by have := (List.getElem?_eq_some_iff.1 hj).1; omega
        have hmem : j ∈ fs.toList.flatMap fun f => (List.range (P.cellsOf f.type)).map (f.offset + ·) := by rw [htl.1]; simpa using hjl
        obtain ⟨f, hf, hjf⟩ := List.mem_flatMap.1 hmem
        obtain ⟨i, hi, rfl⟩ := List.mem_map.1 hjf
        have hi' : i < P.cellsOf f.type := by simpa using hi
        obtain ⟨k, hk⟩ := List.getElem?_of_mem hf
        have hk' : fs[k]? = some f := by simpa using hk
        have hkl : k < fs.size := (Array.getElem?_eq_some_iff.1 hk').1
        have hgk := hg k f hk'
        rw [List.getElem?_eq_getElem (by omega)] at hgk
        refine ih f.type n _ _ (htl.2 f hf) hgk v ?_
        refine List.mem_of_getElem? (i := i) ?_
        rw [List.getElem?_take_of_lt hi', List.getElem?_drop]
        exact hj
      · by_cases ha : ∃ n e, desc = .array n e
        · obtain ⟨n, e, rfl⟩ := ha
          simp only [tiles, hu, Bool.and_eq_true, beq_iff_eq] at htl
          cases fuel with
          | zero => simp [DataW.trod] at h
          | succ fu =>
            unfold DataW.trod at h
            rw [hu] at h
            simp only at h
            split at h
            · rename_i hcl
              cases hm : (List.range n).mapM fun i => DataW.trod enc P w base spare held fu e ((cs.drop (i * P.cellsOf e)).take (P.cellsOf e)) with
              | none => rw [hm] at h; simp at h
              | some ys =>
                obtain ⟨hyl, hyp⟩ := some_mapM _ _ _ hm
                obtain ⟨j, hj⟩ := List.getElem?_of_mem hv
                have hjl : j < n * P.cellsOf e := by have := (List.getElem?_eq_some_iff.1 hj).1; omega
                have hc0 : 0 < P.cellsOf e := by
                  rcases Nat.eq_zero_or_pos (P.cellsOf e) with h0 | h0
                  · rw [h0] at hjl; simp at hjl
                  · exact h0
                have hq : j / P.cellsOf e < n := Nat.div_lt_of_lt_mul (by rw [Nat.mul_comm]; exact hjl)
                have hq2 := hyp (j / P.cellsOf e) (j / P.cellsOf e) (by simp [List.getElem?_range hq])
                rw [List.getElem?_eq_getElem (by simp at hyl; omega)] at hq2
                refine ih e fu _ _ htl.2 hq2 v ?_
                have hr := Nat.mod_lt j hc0
                refine List.mem_of_getElem? (i := j % P.cellsOf e) ?_
                rw [List.getElem?_take_of_lt hr, List.getElem?_drop, Nat.div_add_mod']
                exact hj
            · cases h
        · cases fuel with
          | zero => simp [DataW.trod] at h
          | succ n =>
            unfold DataW.trod at h
            rw [hu] at h
            cases desc <;> first | exact absurd ⟨_, rfl⟩ hs | exact absurd ⟨_, _, rfl⟩ ha | skip
            all_goals (simp only at h; first | (cases h; done) | (split at h <;> first | (simp at hv; subst hv; rfl) | (cases h; done) | simp_all))
end
end Go.Proofs.YtmbmngnnfkdngaaGreatDoor

/-
  An expression that the form reads lies in memory as such in the words of the other texts.
-/
namespace Go.Proofs.YtmbmngnnfkdngaaGreatDoor
open Go.RowKit Go.Deep

theorem cellsInt : Tryz.prog.cellsOf 3 = 1 := by kernel_rfl
theorem cellsStr : Tryz.prog.cellsOf 9 = 1 := by kernel_rfl
theorem cellsExpr : Tryz.prog.cellsOf 25 = 4 := by kernel_rfl
theorem cellsExprs : Tryz.prog.cellsOf 23 = 1 := by kernel_rfl
theorem four_of {l : List Value} (h : l.length = 4) : ∃ a b c d, l = [a, b, c, d] := by
  match l, h with
  | [a, b, c, d], _ => exact ⟨a, b, c, d, rfl⟩

section
variable {H : Type} {enc : TypeId × Value → H} {w : World} {base : Nat} {spare : Nat → Bool} {held : Bool}
/-- One field of one cell, and the fuel that is left. -/
theorem field_fuel {t : TypeId} {fs : Array Field} {fuel : Nat} {cs : List Value} {x : DataW H × List MemPlace} (ht : Tryz.prog.underlying t = some (.struct fs)) (h : DataW.trod enc Tryz.prog w base spare held (fuel + 1) t cs = some x)
    (i : Nat) {f : Field} (hf : fs[i]? = some f) (h1 : Tryz.prog.cellsOf f.type = 1) (hoff : f.offset < Tryz.prog.cellsOf t) :
    ∃ v y, cs[f.offset]? = some v ∧ DataW.trod enc Tryz.prog w base spare held fuel f.type [v] = some y := by
  obtain ⟨xs, n, hn, _, hlen, hxl, hg⟩ := DataW.trod_struct ht h
  obtain rfl : fuel = n := by omega
  have hif : i < fs.size := (Array.getElem?_eq_some_iff.1 hf).1
  have hgi := hg i f hf
  rw [h1] at hgi
  have hl : f.offset < cs.length := by omega
  have hone : (cs.drop f.offset).take 1 = [cs[f.offset]'hl] := by
    rw [List.drop_eq_getElem_cons hl]; rfl
  rw [hone, List.getElem?_eq_getElem (by omega)] at hgi
  exact ⟨_, _, List.getElem?_eq_getElem hl, hgi⟩
theorem expr_trodC : ∀ (fuel : Nat) (cs : List Value) (x : DataW H × List MemPlace), DataW.trod enc Tryz.prog w base spare held fuel 25 cs = some x → ∃ y, ExC fuel w (fun b => b < w.heap.size) cs y := by
  intro fuel
  induction fuel using Nat.strongRecOn with
  | _ fuel ih =>
  intro cs x h
  cases fuel with
  | zero => simp [DataW.trod] at h
  | succ fuel =>
    obtain ⟨a, b, c, d, rfl⟩ := four_of ((trod_len Tryz.underlying25 h).trans cellsExpr)
    obtain ⟨v0, y0, e0, t0⟩ := field_fuel Tryz.underlying25 h 0 rfl cellsInt (by rw [cellsExpr]; decide)
    obtain ⟨v1, y1, e1, t1⟩ := field_fuel Tryz.underlying25 h 1 rfl cellsInt (by rw [cellsExpr]; decide)
    obtain ⟨v2, y2, e2, t2⟩ := field_fuel Tryz.underlying25 h 2 rfl cellsStr (by rw [cellsExpr]; decide)
    obtain ⟨v3, y3, e3, t3⟩ := field_fuel Tryz.underlying25 h 3 rfl cellsExprs (by rw [cellsExpr]; decide)
    cases e0; cases e1; cases e2; cases e3
    obtain ⟨op, p0, _, w0⟩ := DataW.trod_int Tryz.underlying3 t0
    obtain ⟨n, p1, _, w1⟩ := DataW.trod_int Tryz.underlying3 t1
    obtain ⟨s, p2, _, w2⟩ := DataW.trod_string Tryz.underlying9 t2
    cases p0; cases p1; cases p2
    obtain ⟨⟨nm⟩⟩ := s
    have hnm : nm.length ≤ maxLen := by simpa [ByteArray.size] using w2
    rcases DataW.trod_slice Tryz.underlying23 t3 with ⟨h0, _⟩ | ⟨ad, len, cap, elems, rest, m, hm, h0, _, hb, hl, hmx, hlen, hel, _, _⟩
    · cases h0
      exact ⟨.mk op n nm [], Option.none, 0, rfl, Nat.le_refl _, Nat.zero_le _, ⟨w0, w1, hnm⟩, Rw.nil⟩
    · cases h0
      subst hm
      have hper : ∀ i, i < len → ∃ z, ∃ ds, ds.length = 4 ∧ ExC m w (fun b => b < w.heap.size) ds z ∧ ∀ j v, ds[j]? = some v → w.cell? (ad.add (i * 4 + j)) = some v := by
        intro i hil
        have hi := hel i hil
        rw [cellsExpr, List.getElem?_eq_getElem (by omega)] at hi
        obtain ⟨ds, hds, htr⟩ := Option.bind_eq_some_iff.1 hi
        obtain ⟨_, hdl, hat⟩ := World.cells?_some hds
        obtain ⟨z, hz⟩ := ih m (by omega) ds _ htr
        refine ⟨z, ds, hdl, hz, fun j v hv => ?_⟩
        have hj : j < 4 := by have := (List.getElem?_eq_some_iff.1 hv).1; omega
        have := hat j hj
        rw [Go.Deep.add_add] at this
        rw [this, hv]
      obtain ⟨zs, hzl, hzp⟩ := list_of _ len hper
      refine ⟨.mk op n nm zs, some ad, cap, by rw [hzl], by omega, hmx, ⟨w0, w1, hnm⟩, rfl, fun hn => ?_⟩
      obtain ⟨ds0, hd0, _, hc0⟩ := hzp 0 (zs[0]'(by omega)) (List.getElem?_eq_getElem (by omega))
      have hcell0 := hc0 0 (ds0[0]'(by omega)) (List.getElem?_eq_getElem (by omega))
      have haz : ad.add (0 * 4 + 0) = ad := by simp [Addr.add]
      rw [haz] at hcell0
      have ha : ad = ⟨ad.block, ad.off, Option.none⟩ := by
        have := spot_none hcell0
        cases ad; simp_all
      have hblk : ad.block < w.heap.size := block_lt_of_cell hcell0
      refine ⟨ad.block, ad.off, congrArg some ha, hblk, fun k z hz => ?_⟩
      obtain ⟨ds, hdl, hR, hat⟩ := hzp k z hz
      refine ⟨ds, hdl, ExC.deeper _ _ _ _ _ hR, fun j v hv => ?_⟩
      have := hat j v hv
      rw [ha, Addr.add_mid] at this
      simpa [Nat.add_assoc] using this
theorem expr_trod {fuel : Nat} {cs : List Value} {x : DataW H × List MemPlace} (h : DataW.trod enc Tryz.prog w base spare held fuel 25 cs = some x) :
    ∃ op n nm A c ks, cs = [.int .i64 op, .int .i64 n, .string ⟨nm.toArray⟩, .slice A ks.length c] ∧ XI w op n nm A c ks := by
  obtain ⟨y, hy⟩ := expr_trodC fuel cs x h
  obtain ⟨op, n, nm, ks⟩ := y
  obtain ⟨A, c, e, h1, h2, h3, h4⟩ := ExV.form ⟨fuel, hy⟩
  exact ⟨op, n, nm, A, c, ks, e, h1, h2, h3, h4⟩
end
end Go.Proofs.YtmbmngnnfkdngaaGreatDoor

/-
  Signals that the form reads are such in the words of the other texts.
-/
namespace Go.Proofs.YtmbmngnnfkdngaaGreatDoor
open Go.RowKit Go.Deep

theorem cellsSg : Tryz.prog.cellsOf 69 = 2 := by kernel_rfl
theorem two_cells {l : List Value} (h : l.length = 2) : ∃ a b, l = [a, b] := by
  match l, h with
  | [a, b], _ => exact ⟨a, b, rfl⟩
def SgCs (w : World) (_ : Nat) (cs : List Value) (s : Sg) : Prop := SgC w (fun _ => True) cs s
theorem rw_of_rws {α : Type} {R : World → Nat → List Value → α → Prop} {R' : World → (Nat → Prop) → List Value → α → Prop} {size n : Nat} {w : World} {A : Option Addr} {xs : List α} (h : Rws R size w w.heap.size A n xs) (hR : ∀ cs x, R w w.heap.size cs x → R' w (fun b => b < w.heap.size) cs x) : Rw R' size w (fun b => b < w.heap.size) A n xs := by
  refine ⟨h.1, fun hn => ?_⟩
  obtain ⟨b, o, e, hb, hr⟩ := h.2 hn
  refine ⟨b, o, e, hb, fun k x hx => ?_⟩
  obtain ⟨cs, h1, h2, h3⟩ := hr k x hx
  exact ⟨cs, h1, hR cs x h2, h3⟩

section
variable {H : Type} {enc : TypeId × Value → H} {w : World} {base : Nat} {spare : Nat → Bool} {held : Bool}
theorem sg_trod {fuel : Nat} {cs : List Value} {x : DataW H × List MemPlace} (h : DataW.trod enc Tryz.prog w base spare held fuel 69 cs = some x) : ∃ z, SgCs w w.heap.size cs z := by
  obtain ⟨a, b, rfl⟩ := two_cells ((trod_len Tryz.underlying69 h).trans cellsSg)
  obtain ⟨n0, v0, y0, e0, t0⟩ := field_one Tryz.underlying69 h 0 rfl cellsStr (by rw [cellsSg]; decide)
  obtain ⟨n1, v1, y1, e1, t1⟩ := field_one Tryz.underlying69 h 1 rfl cellsInt (by rw [cellsSg]; decide)
  cases e0; cases e1
  obtain ⟨s, p0, _, w0⟩ := DataW.trod_string Tryz.underlying9 t0
  obtain ⟨n, p1, _, w1⟩ := DataW.trod_int Tryz.underlying3 t1
  cases p0; cases p1
  obtain ⟨⟨nm⟩⟩ := s
  exact ⟨⟨nm, n⟩, rfl, by simpa [ByteArray.size] using w0, w1⟩
theorem sgs_trod {fuel : Nat} {cs : List Value} {x : DataW H × List MemPlace} (h : DataW.trod enc Tryz.prog w base spare held fuel 32 cs = some x) :
    ∃ (A : Option Addr) (c : Nat) (es : List Sg), cs = [.slice A es.length c] ∧ es.length ≤ c ∧ c ≤ maxLen ∧ Rw SgC 2 w (fun b => b < w.heap.size) A es.length es := by
  obtain ⟨es, A, c, rfl, h1, h2, h3⟩ := sliceOf_trod (R := SgCs) (by decide) Tryz.underlying32 cellsSg (fun n ds y _ hy => sg_trod hy) h
  exact ⟨A, c, es, rfl, h1, h2, rw_of_rws h3 fun _ _ q => q⟩
end
end Go.Proofs.YtmbmngnnfkdngaaGreatDoor

/-
  Rules that the form reads are such in the words of the other texts.
-/
namespace Go.Proofs.YtmbmngnnfkdngaaGreatDoor
open Go.RowKit Go.Deep

theorem cellsRl : Tryz.prog.cellsOf 34 = 2 := by kernel_rfl
def RlCs (w : World) (_ : Nat) (cs : List Value) (r : Rl) : Prop := RlC w (fun _ => True) cs r
section
variable {H : Type} {enc : TypeId × Value → H} {w : World} {base : Nat} {spare : Nat → Bool} {held : Bool}
theorem rl_trod {fuel : Nat} {cs : List Value} {x : DataW H × List MemPlace} (h : DataW.trod enc Tryz.prog w base spare held fuel 34 cs = some x) : ∃ z, RlCs w w.heap.size cs z := by
  obtain ⟨a, b, rfl⟩ := two_cells ((trod_len Tryz.underlying34 h).trans cellsRl)
  obtain ⟨n0, v0, y0, e0, t0⟩ := field_one Tryz.underlying34 h 0 rfl cellsStr (by rw [cellsRl]; decide)
  obtain ⟨n1, v1, y1, e1, t1⟩ := field_one Tryz.underlying34 h 1 rfl cellsStr (by rw [cellsRl]; decide)
  cases e0; cases e1
  obtain ⟨s, p0, _, w0⟩ := DataW.trod_string Tryz.underlying9 t0
  obtain ⟨u, p1, _, w1⟩ := DataW.trod_string Tryz.underlying9 t1
  cases p0; cases p1
  obtain ⟨⟨nm⟩⟩ := s
  obtain ⟨⟨tx⟩⟩ := u
  exact ⟨⟨nm, tx⟩, rfl, by simpa [ByteArray.size] using w0, by simpa [ByteArray.size] using w1⟩
theorem rls_trod {fuel : Nat} {cs : List Value} {x : DataW H × List MemPlace} (h : DataW.trod enc Tryz.prog w base spare held fuel 31 cs = some x) :
    ∃ (A : Option Addr) (c : Nat) (es : List Rl), cs = [.slice A es.length c] ∧ es.length ≤ c ∧ c ≤ maxLen ∧ Rw RlC 2 w (fun b => b < w.heap.size) A es.length es := by
  obtain ⟨es, A, c, rfl, h1, h2, h3⟩ := sliceOf_trod (R := RlCs) (by decide) Tryz.underlying31 cellsRl (fun n ds y _ hy => rl_trod hy) h
  exact ⟨A, c, es, rfl, h1, h2, rw_of_rws h3 fun _ _ q => q⟩
end
end Go.Proofs.YtmbmngnnfkdngaaGreatDoor
