/-
  What Decompile's walk needs: an instruction's bounds; a row cut short.
-/
import Derived.Test.YtcikenlflcofbaaDoorNmd
namespace Go.Proofs.YtcikenlflcofbaaDoor
open Go.RowKit

theorem wf_small {z : Int} (h : -1000000000000 ≤ z) (h' : z ≤ 1000000000000) : (Lit.int .i64 z).wf = true := wf64 (by omega) (by omega)
theorem own_cut {w : World} {base size n c r : Nat} {e : TypeId} {A : Option Addr} {xs : List Value} (h : w.ownsRow base e size (.slice A n c) n xs) (hr : r ≤ n) : w.ownsRow base e size (.slice A r c) r (xs.take (r * size)) := by
  obtain ⟨h1, h2⟩ := h
  have hle : r * size ≤ n * size := Nat.mul_le_mul_right _ hr
  refine ⟨by rw [List.length_take, h1]; omega, ?_⟩
  rcases h2 with ⟨hv, hn⟩ | ⟨g, cap, cur, hv, a1, a2, a3, a4, a5, a6⟩
  · subst hn
    obtain rfl : r = 0 := by omega
    exact .inl ⟨hv, rfl⟩
  · refine .inr ⟨g, cap, cur, ?_, a1, a2, Nat.le_trans hr a3, a4, a5, ?_⟩
    · injection hv with q1 q2 q3
      rw [q1, q3]
    · rw [← a6, List.take_take, Nat.min_eq_left hle]
theorem flat_take (ls : List XL) (r : Nat) : (ls.take r).flatMap XL.cells = (ls.flatMap XL.cells).take (r * 4) := by
  induction ls generalizing r with
  | nil => simp
  | cons x ls ih =>
    cases r with
    | zero => simp
    | succ r =>
      rw [List.take_succ_cons, List.flatMap_cons, List.flatMap_cons, ih]
      have e : (r + 1) * 4 = r * 4 + 4 := by omega
      rw [e]
      show XL.cells x ++ _ = (XL.cells x ++ _).take (r * 4 + 4)
      unfold XL.cells
      simp [List.take_succ_cons]
theorem XOwn.take {w : World} {base n c r : Nat} {T : Nat → Prop} {A : Option Addr} {xs : List Ex} (h : XOwn w base T (.slice A n c) xs) (hn : xs.length = n) (hr : r ≤ n) : XOwn w base T (.slice A r c) (xs.take r) := by
  obtain ⟨ls, h1, h2, h3, h4⟩ := h
  subst hn
  have hl : (xs.take r).length = r := by rw [List.length_take]; omega
  refine ⟨ls.take r, by rw [List.length_take, List.length_take, h1], ?_, fun k l x hl hx => ?_, fun b q => by have := h4 b q; cases A <;> exact this⟩
  · rw [hl, flat_take]
    exact own_cut h2 hr
  · rw [List.getElem?_take] at hl hx
    split at hl
    · rename_i hk
      rw [if_pos hk] at hx
      exact h3 k l x hl hx
    · cases hl
/-- The end of a row, to be read. -/
theorem own_src_from {w : World} {base size n c r : Nat} {e : TypeId} {A : Option Addr} {xs : List Value} (h : w.ownsRow base e size (.slice A n c) n xs) (hr : r ≤ n) : Src w size (Option.map (fun x => x.add (r * size)) A) (n - r) (xs.drop (r * size)) := by
  refine ⟨by rw [List.length_drop, h.1, Nat.sub_mul], fun hpos => ?_⟩
  obtain ⟨g, cap, hv, hlo, hlt⟩ := h.form (by omega)
  have hA : A = some ⟨g, 0, Option.none⟩ := by injection hv
  have hc : c = cap := by injection hv
  subst hA
  subst hc
  refine ⟨_, rfl, fun j u hu => ?_⟩
  rw [List.getElem?_drop] at hu
  have hi := (List.getElem?_eq_some_iff.1 hu).1
  rw [h.1] at hi
  show w.cell? (((⟨g, 0, Option.none⟩ : Addr).add (r * size)).add j) = some u
  rw [Addr.add_mid, Addr.add_mid, Nat.zero_add]
  exact (h.cellAt (r * size + j) hi).trans hu
theorem flat_drop (ls : List XL) (r : Nat) : (ls.drop r).flatMap XL.cells = (ls.flatMap XL.cells).drop (r * 4) := by
  induction ls generalizing r with
  | nil => simp
  | cons x ls ih =>
    cases r with
    | zero => simp
    | succ r =>
      rw [List.drop_succ_cons, List.flatMap_cons, ih]
      have e : (r + 1) * 4 = r * 4 + 4 := by omega
      rw [e]
      show _ = (XL.cells x ++ _).drop (r * 4 + 4)
      unfold XL.cells
      simp
/-- An instruction that the verifier takes. -/
theorem step_nm {p : Pg} {v v' : Vs} {c : Ins} (hv : (verP p).2.2 = 0) (h : stepP p v c = .ok v') : NmOk p c := by
  obtain ⟨h0, ha, -, -⟩ := step_inv h
  obtain ⟨s1, s2, s3, s4⟩ := ver_small hv
  have hop := op_cases h0
  obtain ⟨op, a⟩ := c
  dsimp only at h0 hop
  have hwo : -1000000000000 ≤ op ∧ op ≤ 1000000000000 := by omega
  have hn := fun (j : Nat) (l : Cl) (q : p.cells[j]? = some l) => wf_small (z := l.n) (by have := ver_cells hv q; omega) (by have := ver_cells hv q; omega)
  unfold argP at ha
  dsimp only at ha
  rcases hop with (rfl | rfl) | rfl | rfl | rfl | h17 | h4
  · rw [if_pos rfl, decide_eq_true_eq] at ha
    exact ⟨by simp, by simp, by simp, wf_small hwo.1 hwo.2, wf_small (by first | omega | (dsimp only; omega)) (by first | omega | (dsimp only; omega)), hn⟩
  · rw [if_neg (by decide), if_pos rfl, decide_eq_true_eq] at ha
    exact ⟨by simp, by simp, by simp, wf_small hwo.1 hwo.2, wf_small (by first | omega | (dsimp only; omega)) (by first | omega | (dsimp only; omega)), hn⟩
  · rw [if_neg (by decide), if_neg (by decide), if_pos rfl, decide_eq_true_eq] at ha
    exact ⟨fun _ => ⟨a.toNat, by first | omega | (dsimp only; omega), by first | omega | (dsimp only; omega)⟩, by simp, by simp, wf_small hwo.1 hwo.2, wf_small (by first | omega | (dsimp only; omega)) (by first | omega | (dsimp only; omega)), hn⟩
  · rw [if_neg (by decide), if_neg (by decide), if_neg (by decide), if_pos rfl, decide_eq_true_eq] at ha
    exact ⟨by simp, fun _ => ⟨a.toNat, by first | omega | (dsimp only; omega), by first | omega | (dsimp only; omega)⟩, by simp, wf_small hwo.1 hwo.2, wf_small (by first | omega | (dsimp only; omega)) (by first | omega | (dsimp only; omega)), hn⟩
  · rw [if_neg (by decide), if_neg (by decide), if_neg (by decide), if_neg (by decide), if_pos rfl, decide_eq_true_eq] at ha
    exact ⟨by simp, by simp, by simp, wf_small hwo.1 hwo.2, wf_small (by first | omega | (dsimp only; omega)) (by first | omega | (dsimp only; omega)), hn⟩
  · rw [if_neg (by omega), if_neg (by omega), if_neg (by omega), if_neg (by omega), if_neg (by omega), if_neg (by rw [kept_iff.2 h17]; decide), Bool.and_eq_true, decide_eq_true_eq] at ha
    obtain ⟨ha1, ha2⟩ := ha
    have hlt : v.used < p.cells.length := by
      rcases Nat.lt_or_ge v.used p.cells.length with q | q
      · exact q
      · rw [List.getElem?_eq_none q] at ha2
        cases ha2
    exact ⟨fun e => by first | omega | (dsimp only at e; omega), fun e => by first | omega | (dsimp only at e; omega), fun _ => ⟨v.used, ha1, hlt⟩, wf_small (by first | omega | (dsimp only; omega)) (by first | omega | (dsimp only; omega)), wf_small (by first | omega | (dsimp only; omega)) (by first | omega | (dsimp only; omega)), hn⟩
  · have hk : keptB op = false := by unfold keptB; simp; omega
    rw [if_neg (by omega), if_neg (by omega), if_neg (by omega), if_neg (by omega), if_neg (by omega), if_pos hk, decide_eq_true_eq] at ha
    exact ⟨fun e => by first | omega | (dsimp only at e; omega), fun e => by first | omega | (dsimp only at e; omega), fun e => by first | omega | (dsimp only at e; omega), wf_small (by first | omega | (dsimp only; omega)) (by first | omega | (dsimp only; omega)), wf_small (by first | omega | (dsimp only; omega)) (by first | omega | (dsimp only; omega)), hn⟩
/-- A row to be read: its own block, and the blocks where its operands lie. -/
theorem kids_rw {w : World} {base n c : Nat} {T S : Nat → Prop} {A : Option Addr} {ls : List XL} {xs : List Ex} (h1 : ls.length = xs.length) (hn : xs.length = n) (h2 : w.ownsRow base 49 4 (.slice A n c) n (ls.flatMap XL.cells))
    (h3 : ∀ (k : Nat) (l : XL) (x : Ex), ls[k]? = some l → xs[k]? = some x → ExV w T l.cells x) (hT : ∀ b, T b → S b) (hS : ∀ b, base ≤ b → b < w.heap.size → S b) : Rw ExV 4 w S A n xs := by
  subst hn
  have h0 : Rw (fun _ _ cs l => cs = XL.cells l) 4 w S A ls.length ls := Rw.of_own (f := XL.cells) (base := base) (e := 49) (c := c) (by rw [h1]; exact h2) rfl (fun _ _ => rfl) (fun _ _ => rfl) hS
  refine ⟨rfl, fun hpos => ?_⟩
  obtain ⟨b, o, e, hb, hr⟩ := h0.2 (by omega)
  refine ⟨b, o, e, hb, fun k x hx => ?_⟩
  have hk := (List.getElem?_eq_some_iff.1 hx).1
  obtain ⟨cs, hl, rfl, hat⟩ := hr k _ (List.getElem?_eq_getElem (show k < ls.length by omega))
  exact ⟨_, hl, ExV.mono _ _ _ _ _ _ hT (KeepOn.refl _ _) (h3 k _ x (List.getElem?_eq_getElem (show k < ls.length by omega)) hx), hat⟩
/-- A row stays when another row grows. -/
theorem XOwn.aside {w w' : World} {base : Nat} {T : Nat → Prop} {v : Value} {xs : List Ex} {row : Option Nat} (h : XOwn w base T v xs) (hg : w.grownBy w' row) (hr : ∀ g, row = some g → v.ownBlock ≠ some g ∧ ¬ T g) : XOwn w' base T v xs := by
  obtain ⟨ls, h1, h2, h3, h4⟩ := h
  exact ⟨ls, h1, own_heap h2 (fun g e hgs => hg.block g hgs (fun he => (hr g he.symm).1 e)), fun k l x hl hx => ExV.mono _ _ _ _ _ _ (fun _ q => q) (keepOn_grown hg fun b hb => ⟨(h4 b hb).2.1, fun he => (hr b he.symm).2 hb⟩) (h3 k l x hl hx), fun b hb => ⟨(h4 b hb).1, Nat.lt_of_lt_of_le (h4 b hb).2.1 hg.size, (h4 b hb).2.2⟩⟩
theorem own_block_cut (A : Option Addr) (n r c : Nat) : (Value.slice A r c).ownBlock = (Value.slice A n c).ownBlock := by cases A <;> rfl
/-- The expression that a push makes: its operands lie in the clone's row. -/
theorem push_ex {w0 w6 : World} {w4 base n r c c5 n5 : Nat} {A5 : Option Addr} {T7 : Nat → Prop} {A7 : Option Addr} {st : List Ex} {ls7 : List XL} {p : Pg} {i : Ins} {op m : Int} {nm : List UInt8} (hn5 : st.length - r = n5)
    (hls : ls7.length = st.length) (hv : ∀ (k : Nat) (l : XL) (x : Ex), ls7[k]? = some l → st[k]? = some x → ExV w0 T7 l.cells x) (hT : ∀ b, T7 b → base ≤ b ∧ b < w0.heap.size ∧ some b ≠ (Value.slice A7 n c).ownBlock)
    (hb : Below w0.heap.size w0 w6) (ho : w6.ownsRow w4 49 4 (.slice A5 n5 c5) n5 ((ls7.drop r).flatMap XL.cells)) (hc5 : n5 ≤ c5) (hm5 : c5 ≤ maxLen)
    (hnm : ∀ ks, namedP p i ks = .mk op m nm ks) (hx : ExP op m nm) :
    ExV w6 (fun b => T7 b ∨ (w4 ≤ b ∧ b < w6.heap.size)) [.int .i64 op, .int .i64 m, .string ⟨nm.toArray⟩, .slice A5 n5 c5] (namedP p i (st.drop r)) := by
  subst hn5
  have kk : KeepOn T7 w0 w6 := keepOn_below hb fun b q => (hT b q).2.1
  have hkr : Rw ExV 4 w6 (fun b => T7 b ∨ (w4 ≤ b ∧ b < w6.heap.size)) A5 (st.length - r) (st.drop r) := kids_rw (ls := ls7.drop r) (T := T7) (by simp [hls]) List.length_drop ho
    (fun k l x hl hx => by
      rw [List.getElem?_drop] at hl hx
      exact ExV.mono _ _ _ _ _ _ (fun _ q => q) kk (hv _ l x hl hx)) (fun _ q => .inl q) (fun b h1 h2 => .inr ⟨h1, h2⟩)
  rw [hnm]
  have := ExV.mk (A := A5) (c := c5) (ks := st.drop r) (by rw [List.length_drop]; exact hc5) hm5 hx (by rw [List.length_drop]; exact hkr)
  rw [List.length_drop] at this
  exact this
/-- The second loop of Decompile. -/
def DvR (W : World) (l : List Ex) (g : Nat) (v : Value) (wr : World) : Prop :=
  ∃ j : Nat, j ≤ l.length ∧ l.length - j < g ∧ v = .int .i64 (j : Int) ∧ (∀ i x, i < j → l[i]? = some x → validP x = true) ∧ Below W.heap.size W wr
end Go.Proofs.YtcikenlflcofbaaDoor
