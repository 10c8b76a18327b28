/-
  The reference's GoodEnv, Wants, kind and Check.
-/
import Derived.Test.YtmbmngnnfkdngaaGreatDoorChk
import Derived.Test.YtmbmngnnfkdngaaGreatDoorRV
import Derived.Test.YtmbmngnnfkdngaaGreatDoorTable
import Derived.Test.YtmbmngnnfkdngaaGreatDoorChkP
namespace Go.Proofs.YtmbmngnnfkdngaaGreatDoor
open Go.RowKit

def GeR (W0 : World) (env : List Sg) (g : Nat) (v : Value) (wr : World) : Prop := ∃ k : Nat, k ≤ env.length ∧ env.length - k < g ∧ v = .int .i64 (k : Int) ∧ goodG (env.take k) (env.drop k) = goodP env ∧ Below W0.heap.size W0 wr
def GeS (W0 : World) (k : Nat) (env : List Sg) (nm : List UInt8) (g : Nat) (v : Value) (wr : World) : Prop := ∃ j : Nat, j ≤ k ∧ k - j < g ∧ v = .int .i64 (j : Int) ∧ (∀ i y, i < j → env[i]? = some y → y.nm ≠ nm) ∧ Below W0.heap.size W0 wr
theorem kindOf_take_some {env : List Sg} {k j : Nat} {y : Sg} (hj : j < k) (hy : env[j]? = some y) : (kindOf (env.take k) y.nm).isNone = false := by
  unfold kindOf
  have hm : y ∈ env.take k := List.mem_of_getElem? (i := j) (by rw [List.getElem?_take_of_lt hj]; exact hy)
  cases hf : (env.take k).find? fun x => decide (x.nm = y.nm) with
  | none => have := List.find?_eq_none.1 hf y hm; simp at this
  | some z => rfl
theorem kindOf_take_none {env : List Sg} {k : Nat} {nm : List UInt8} (h : ∀ i y, i < k → env[i]? = some y → y.nm ≠ nm) : (kindOf (env.take k) nm).isNone = true := by
  unfold kindOf
  have : (env.take k).find? (fun x => decide (x.nm = nm)) = none := by
    rw [List.find?_eq_none]
    intro x hx
    obtain ⟨j, hj, rfl⟩ := List.getElem_of_mem hx
    rw [List.length_take] at hj
    have := h j _ (by omega) (List.getElem?_eq_getElem (by omega))
    simpa [List.getElem_take] using this
  rw [this]
  rfl
theorem ge_succ {env : List Sg} {nm : List UInt8} {j : Nat} {y : Sg} (h : ∀ i y, i < j → env[i]? = some y → y.nm ≠ nm) (hy : env[j]? = some y) (hn : y.nm ≠ nm) : ∀ i y, i < j + 1 → env[i]? = some y → y.nm ≠ nm := by
  intro i z hi hz
  rcases Nat.lt_succ_iff_lt_or_eq.1 hi with q | rfl
  · exact h i z q hz
  · rw [hy] at hz; cases hz; exact hn

set_option maxRecDepth 100000 in
set_option maxHeartbeats 4000000 in
theorem rgood_any (A : Option Addr) (c : Nat) (env : List Sg) (w : World) (hc : env.length ≤ c) (hm : c ≤ maxLen) (hr : Rw SgC 2 w (fun b => b < w.heap.size) A env.length env) :
    Calls Tryz.prog 29 #[.slice A env.length c] w (RetB (goodP env) w) := by
  have HR := Lib.hid hr
  clear hr
  unfold maxLen at hm
  go_enter Tryz.func29, Tryz.ntmps29
  go_wp2
  go_loopg [9] (env.length + 1) (fun g v wr => GeR w env g v wr)
  case atStart => exact ⟨0, Nat.zero_le _, by omega, rfl, by rw [List.take_zero, List.drop_zero]; rfl, Below.refl _ _⟩
  case round =>
    obtain ⟨k, hk, hgk, rfl, hgood, hbel⟩ := hrel
    by_cases hlt : k < env.length
    case neg =>
      obtain rfl : k = env.length := by omega
      rw [List.drop_length] at hgood
      have HG := Lib.hid (show goodP env = true from hgood.symm)
      have HB := Lib.hid hbel
      clear hgood hbel hlt
      go_wp2
      go_ret
      exact ⟨ret_bool HG.out.symm, HB.out⟩
    obtain ⟨b, o, s, hA, hSb, hx, hxl, hxw, y0, y1⟩ := sgAt (HR.out.mono SgC.mono (fun _ q => q) (keepOn_below hbel fun _ q => q)) hlt
    subst hA
    have hget : env[k] = s := by
      rw [List.getElem?_eq_getElem hlt] at hx
      injection hx
    rw [List.drop_eq_getElem_cons hlt, hget] at hgood
    unfold goodG at hgood
    have htake : env.take (k + 1) = env.take k ++ [s] := by
      rw [List.take_succ_eq_append_getElem hlt, hget]
    rw [← htake] at hgood
    have hbk : b < wr.heap.size := Nat.lt_of_lt_of_le hSb hbel.size
    obtain ⟨nm, kd⟩ := s
    dsimp only at *
    have hbx := box_below wr (Obj.cells #[.string ⟨nm.toArray⟩, .int .i64 kd] 69)
    have hbw := below_two hbel hbx hbel.size
    have C := fun W => rname_any nm W hxl
    unfold sgB at hgood
    dsimp only at hgood
    generalize hNB : nameB nm = nb at *
    clear hNB
    have HC := Lib.hid C
    have HB := Lib.hid hbw
    have HX := Lib.hid hx
    have hnew0 : (wr.alloc (Obj.cells #[.string ⟨nm.toArray⟩, .int .i64 kd] 69)).cell? ⟨wr.heap.size, 0, Option.none⟩ = some (.string ⟨nm.toArray⟩) := by rw [cell_of_row _ wr.heap.size 0 _ _ (0, 0) (heap_alloc_new wr _)]; rfl
    have hnew1 : (wr.alloc (Obj.cells #[.string ⟨nm.toArray⟩, .int .i64 kd] 69)).cell? ⟨wr.heap.size, 1, Option.none⟩ = some (.int .i64 kd) := by rw [cell_of_row _ wr.heap.size 1 _ _ (0, 0) (heap_alloc_new wr _)]; rfl
    clear C hbx hbw htake hx hget hSb
    cases nb with
    | false =>
      have HG := Lib.hid (show goodP env = false by rw [← hgood]; rfl)
      clear hgood hbel hnew0 hnew1
      go_wp2_with fail
      refine (HC.out _).mono ?_
      rintro e w5 ⟨rfl, hb5⟩
      go_wp2
      go_ret
      exact ⟨ret_bool HG.out.symm, below_two HB.out hb5 HB.out.size⟩
    | true =>
      have HN0 := Lib.hid hnew0
      have HN1 := Lib.hid hnew1
      clear hnew0 hnew1
      by_cases hkd : kd = 1 ∨ kd = 2
      case neg =>
        have HG := Lib.hid (show goodP env = false by rw [← hgood]; simp [hkd])
        have k1 : (kd != 1) = true := by simp; exact fun q => hkd (.inl q)
        have k2 : (kd != 2) = true := by simp; exact fun q => hkd (.inr q)
        clear hgood hbel hkd
        go_wp2_with fail
        refine (HC.out _).mono ?_
        rintro e w5 ⟨rfl, hb5⟩
        have z1 := cell_below HN1.out hb5
        go_wp2
        go_ret
        exact ⟨ret_bool HG.out.symm, below_two HB.out hb5 HB.out.size⟩
      have hkw : (kd != 1) = false ∨ (kd != 1) = true ∧ (kd != 2) = false := by
        rcases hkd with rfl | rfl
        · exact .inl rfl
        · exact .inr ⟨rfl, rfl⟩
      have hg2 : goodP env = ((kindOf (env.take k) nm).isNone && goodG (env.take (k + 1)) (env.drop (k + 1))) := by
        rw [← hgood]
        rcases hkd with rfl | rfl <;> simp
      have HG := Lib.hid hg2
      clear hgood hg2 hkd hbel
      rcases hkw with k1 | ⟨k1, k2⟩
      all_goals
        go_wp2_with fail
        refine (HC.out _).mono ?_
        rintro e w5 ⟨rfl, hb5⟩
        have HB5 := Lib.hid (below_two HB.out hb5 HB.out.size)
        have HZ0 := Lib.hid (cell_below HN0.out hb5)
        have z1 := cell_below HN1.out hb5
        have hlt5 := hb5.size
        simp only [World.size_alloc] at hlt5
        clear hb5
        have hkc : k ≤ c := by omega
        go_wp2
        clear z1
        go_loopg [32] (k + 1) (fun g v wq => GeS w5 k env nm g v wq)
        case atStart => exact ⟨0, Nat.zero_le _, by omega, rfl, fun i y h => absurd h (Nat.not_lt_zero _), Below.refl _ _⟩
        case round =>
          rename World => wq
          obtain ⟨j, hj, hgj, rfl, hall, hbq⟩ := hrel
          have HALL := Lib.hid hall
          have hbq2 := below_two HB5.out hbq HB5.out.size
          have hsq := hbq.size
          clear hall
          by_cases hjk : j < k
          case neg =>
            obtain rfl : j = k := by omega
            have HG2 := Lib.hid (show goodG (env.take (j + 1)) (env.drop (j + 1)) = goodP env by rw [HG.out, kindOf_take_none HALL.out, Bool.true_and])
            have HBQ := Lib.hid hbq2
            clear hbq hbq2
            go_wp2
            go_roundg (env.length - j)
            case measure => omega
            case rel => exact ⟨j + 1, by omega, by omega, by go_num, HG2.out, HBQ.out⟩
          obtain ⟨b', o', s', hA', hSb', hx', hxl', hxw', u0, u1⟩ := sgAt (HR.out.mono SgC.mono (fun _ q => q) (keepOn_below hbq2 fun _ q => q)) (k := j) (by omega)
          injection hA' with hA'
          injection hA' with hA1 hA2
          subst hA1
          subst hA2
          obtain ⟨nm', kd'⟩ := s'
          dsimp only at *
          have hbk' : b < wq.heap.size := by omega
          have hzz : wr.heap.size < wq.heap.size := by omega
          have z0 := cell_below HZ0.out hbq
          have hbx' := box_below wq (Obj.cells #[.string ⟨nm'.toArray⟩, .int .i64 kd'] 69)
          have HBQ := Lib.hid (below_two hbq hbx' hbq.size)
          have HBW := Lib.hid (below_two hbq2 hbx' hbq2.size)
          have HX' := Lib.hid hx'
          clear hbq hbq2 hbx' hx' hSb'
          by_cases he : nm' = nm
          · have e1 : (nm' == nm) = true := by simp [he]
            subst he
            have HG3 := Lib.hid (show goodP env = false by rw [HG.out, kindOf_take_some hjk HX'.out, Bool.false_and])
            go_wp2
            go_ret
            exact ⟨ret_bool HG3.out.symm, HBW.out⟩
          · have e1 : (nm' == nm) = false := by simp [he]
            have HS := Lib.hid (ge_succ HALL.out HX'.out he)
            clear he
            go_wp2
            go_roundg (k - j)
            case measure => omega
            case rel => exact ⟨j + 1, by omega, by omega, by go_num, HS.out, HBQ.out⟩
end Go.Proofs.YtmbmngnnfkdngaaGreatDoor

/-
  Words that several texts share: what a type's table says; sources of append out of rows; signals' cells.
-/
namespace Go.Proofs.YtmbmngnnfkdngaaGreatDoor
open Go.RowKit

theorem flatMap_get {α : Type} {f : α → List Value} {size : Nat} : ∀ (xs : List α) (i : Nat) (u : Value), (∀ x ∈ xs, (f x).length = size) → (xs.flatMap f)[i]? = some u → ∃ k j x, xs[k]? = some x ∧ (f x)[j]? = some u ∧ i = k * size + j
  | [], i, u, _, h => by simp at h
  | y :: xs, i, u, h, hu => by
    have hy := h y (List.mem_cons_self ..)
    rw [List.flatMap_cons] at hu
    by_cases hi : i < size
    · rw [List.getElem?_append_left (by omega)] at hu
      exact ⟨0, i, y, rfl, hu, by omega⟩
    · rw [List.getElem?_append_right (by omega), hy] at hu
      obtain ⟨k, j, x, h1, h2, h3⟩ := flatMap_get xs (i - size) u (fun z hz => h z (List.mem_cons_of_mem _ hz)) hu
      exact ⟨k + 1, j, x, h1, h2, by rw [Nat.succ_mul]; omega⟩
theorem flatMap_len {α : Type} {f : α → List Value} {size : Nat} : ∀ (xs : List α), (∀ x ∈ xs, (f x).length = size) → (xs.flatMap f).length = xs.length * size
  | [], _ => by simp
  | y :: xs, h => by
    rw [List.flatMap_cons, List.length_append, h y (List.mem_cons_self ..), flatMap_len xs (fun z hz => h z (List.mem_cons_of_mem _ hz)), List.length_cons, Nat.succ_mul]; omega
theorem src_rw {α : Type} {R : World → (Nat → Prop) → List Value → α → Prop} {size n : Nat} {w : World} {S : Nat → Prop} {A : Option Addr} {xs : List α} {f : α → List Value} (h : Rw R size w S A n xs) (hR : ∀ cs x, R w S cs x → cs = f x) (hf : ∀ x ∈ xs, (f x).length = size) : Src w size A n (xs.flatMap f) := by
  refine ⟨by rw [flatMap_len xs hf, h.1], fun hn => ?_⟩
  obtain ⟨b, o, e, _, hr⟩ := h.2 hn
  refine ⟨⟨b, o, Option.none⟩, e, fun i u hu => ?_⟩
  obtain ⟨k, j, x, hk, hj, rfl⟩ := flatMap_get xs i u hf hu
  obtain ⟨cs, _, hb, hat⟩ := hr k x hk
  obtain rfl := hR cs x hb
  rw [Addr.add_mid]
  have := hat j u hj
  rw [Nat.add_assoc] at this
  exact this
theorem src_kept {w w' : World} {size b n : Nat} {xs : List Value} (h : Src w size (some ⟨b, 0, Option.none⟩) n xs) (hb : w'.heap[b]? = w.heap[b]?) : Src w' size (some ⟨b, 0, Option.none⟩) n xs := by
  refine ⟨h.1, fun hn => ?_⟩
  obtain ⟨ad, he, hc⟩ := h.2 hn
  cases he
  refine ⟨_, rfl, fun j v hv => ?_⟩
  have := hc j v hv
  rw [← this]
  exact World.cell?_of_block (a := Addr.add ⟨b, 0, Option.none⟩ j) (by rw [Addr.add_mid]; exact hb)
def sgCells (s : Sg) : List Value := [.string ⟨s.nm.toArray⟩, .int .i64 s.kind]
theorem sgCells_one (env : List Sg) : ∀ u ∈ env.flatMap sgCells, u.oneCell' = true := by
  intro u hu
  obtain ⟨s, _, hs⟩ := List.mem_flatMap.1 hu
  simp only [sgCells, List.mem_cons, List.not_mem_nil, or_false] at hs
  rcases hs with rfl | rfl <;> rfl
theorem sgCells_one1 (s : Sg) : ∀ u ∈ sgCells s, u.oneCell' = true := by
  intro u hu
  simp only [sgCells, List.mem_cons, List.not_mem_nil, or_false] at hu
  rcases hu with rfl | rfl <;> rfl
theorem infoSg : (Tryz.prog.info? 69).map (fun i => (i.zero, i.size, i.bytes)) = some (some (.agg #[.string ⟨#[]⟩, .int .i64 0]), 2, 24) := by kernel_rfl
theorem info_parts {t : TypeId} {z : Value} {s b : Nat} (h : (Tryz.prog.info? t).map (fun i => (i.zero, i.size, i.bytes)) = some (some z, s, b)) : ∃ i, Tryz.prog.info? t = some i ∧ i.zero = some z ∧ i.size = s ∧ i.bytes = b := by
  cases hi : Tryz.prog.info? t with
  | none => rw [hi] at h; cases h
  | some i =>
    rw [hi] at h
    simp only [Option.map_some, Option.some.injEq, Prod.mk.injEq] at h
    exact ⟨i, rfl, h.1, h.2.1, h.2.2⟩
theorem infoInt : (Tryz.prog.info? 3).map (fun i => (i.zero, i.size, i.bytes)) = some (some (.int .i64 0), 1, 8) := by kernel_rfl
end Go.Proofs.YtmbmngnnfkdngaaGreatDoor

/-
  A further name in the environment, in plain words. No program is named here.
-/
namespace Go.Proofs.YtmbmngnnfkdngaaGreatDoor

/-- The name does not occur, d levels deep. -/
def noG (s : List UInt8) : Nat → Ex → Prop
  | 0, _ => True
  | d + 1, .mk _ _ nm ks => nm ≠ s ∧ ∀ k ∈ ks, noG s d k
theorem kindOf_more (env : List Sg) {s x : List UInt8} (k : Int) (hx : x ≠ s) : kindOf (env ++ [⟨s, k⟩]) x = kindOf env x := by
  unfold kindOf
  rw [List.find?_append]
  cases hf : env.find? fun y => decide (y.nm = x) with
  | none => simp [Ne.symm hx]
  | some y => simp
theorem chkL_eq {f g : Ex → Int × Int} : ∀ (ks : List Ex) (acc : List Int), (∀ k ∈ ks, f k = g k) → chkL f acc ks = chkL g acc ks
  | [], acc, _ => rfl
  | k :: ks, acc, h => by
    unfold chkL
    rw [h k (List.mem_cons_self ..)]
    split
    · exact chkL_eq ks _ (fun y hy => h y (List.mem_cons_of_mem _ hy))
    · rfl
theorem chkG_succ (env : List Sg) (d : Nat) (op n : Int) (nm : List UInt8) (ks : List Ex) : chkG env (d + 1) (.mk op n nm ks) = match chkL (chkG env d) [] ks with
    | .error e => (0, e)
    | .ok l => chkN env op nm l := rfl
theorem chkG_more (env : List Sg) {s : List UInt8} (kd : Int) : ∀ (d : Nat) (x : Ex), noG s d x → chkG (env ++ [⟨s, kd⟩]) d x = chkG env d x
  | 0, _, _ => rfl
  | d + 1, .mk op n nm ks, h => by
    obtain ⟨h1, h2⟩ := h
    have he : chkL (chkG (env ++ [(⟨s, kd⟩ : Sg)]) d) [] ks = chkL (chkG env d) [] ks := chkL_eq ks [] (fun k hk => chkG_more env kd d k (h2 k hk))
    rw [chkG_succ, chkG_succ, he]
    cases chkL (chkG env d) [] ks with
    | error e => rfl
    | ok l => simp only [chkN, kindOf_more env kd h1]
theorem goodG_snoc : ∀ (l pre : List Sg) (s : Sg), goodG pre (l ++ [s]) = (goodG pre l && (sgB s && (kindOf (pre ++ l) s.nm).isNone))
  | [], pre, s => by simp [goodG]
  | x :: l, pre, s => by
    rw [List.cons_append]
    unfold goodG
    rw [goodG_snoc l (pre ++ [x]) s, List.append_assoc, List.singleton_append]
    cases sgB x <;> cases (kindOf pre x.nm).isNone <;> simp
theorem kindOf_none {env : List Sg} {s : List UInt8} (h : ∀ y ∈ env, y.nm ≠ s) : kindOf env s = none := by
  unfold kindOf
  rw [List.find?_eq_none.2 (fun y hy => by simpa using h y hy)]
  rfl
theorem check_more {x : Ex} {env : List Sg} {s : List UInt8} (hs : nameB s = true) (hn : ∀ y ∈ env, y.nm ≠ s) (hx : ∀ d, noG s d x) : checkP x (env ++ [⟨s, 2⟩]) = checkP x env := by
  unfold checkP
  have hg : goodP (env ++ [⟨s, 2⟩]) = goodP env := by
    unfold goodP
    rw [goodG_snoc, List.nil_append, kindOf_none hn]
    simp [sgB, hs]
  rw [hg, chkG_more env 2 16 x (hx 16)]
end Go.Proofs.YtmbmngnnfkdngaaGreatDoor

/-
  The reference's Wants, kind and Check.
-/
namespace Go.Proofs.YtmbmngnnfkdngaaGreatDoor
open Go.RowKit

/-- The wanted kinds of an operation's operands, and its result's kind. -/
def wantL (op : Int) : List Int := if op = 16 then [1, 0, 0] else List.replicate (arityP op).toNat (sigP op).1
def wantR (op : Int) : Int := if op = 16 then 0 else (sigP op).2
def RetWants (op : Int) (w : World) (e : Ending) (w' : World) : Prop := ∃ A, e = .returned (.tuple #[.slice A (wantL op).length (wantL op).length, .int .i64 (wantR op)]) ∧ Rws IntC 1 w' w'.heap.size A (wantL op).length (wantL op) ∧ Below w.heap.size w w'
theorem rws_ints (w : World) (l : List Int) (hw : ∀ n ∈ l, (Lit.int .i64 n).wf = true) : Rws IntC 1 (w.alloc (Obj.cells (l.map fun n => Value.int .i64 n).toArray 3)) (w.alloc (Obj.cells (l.map fun n => Value.int .i64 n).toArray 3)).heap.size (some ⟨w.heap.size, 0, Option.none⟩) l.length l := by
  refine ⟨rfl, fun _ => ⟨w.heap.size, 0, rfl, by rw [World.size_alloc]; omega, fun k x hx => ⟨[.int .i64 x], rfl, ⟨rfl, hw x (List.mem_of_getElem? hx)⟩, ?_⟩⟩⟩
  intro j v hv
  obtain rfl : j = 0 := by have := (List.getElem?_eq_some_iff.1 hv).1; simp at this; omega
  obtain rfl : v = .int .i64 x := by simpa using hv.symm
  rw [cell_of_row _ w.heap.size _ _ _ (0, 0) (heap_alloc_new w _)]
  simp [hx]

set_option maxRecDepth 100000 in
set_option maxHeartbeats 4000000 in
theorem rwants_any (op : Int) (w : World) (h1 : 1 ≤ op) (h2 : op ≤ 22) (h3 : op ≠ 3) : Calls Tryz.prog 68 #[.int .i64 op] w (RetWants op w) := by
  have hop : op = 1 ∨ op = 2 ∨ op = 4 ∨ op = 17 ∨ op = 18 ∨ op = 19 ∨ op = 20 ∨ op = 5 ∨ op = 6 ∨ op = 7 ∨ op = 21 ∨ op = 22 ∨ op = 8 ∨ op = 9 ∨ op = 10 ∨ op = 11 ∨ op = 12 ∨ op = 13 ∨ op = 14 ∨ op = 15 ∨ op = 16 := by omega
  clear h1 h2 h3
  rcases hop with rfl | rfl | rfl | rfl | rfl | rfl | rfl | rfl | rfl | rfl | rfl | rfl | rfl | rfl | rfl | rfl | rfl | rfl | rfl | rfl | rfl
  · go_enter Tryz.func68, Tryz.ntmps68
    go_wp2
    exact bodyPost_ret (v := .tuple #[.slice Option.none 0 0, .int .i64 1]) (by simp [results, Tryz.results68, go_sem]) rfl ⟨_, rfl, ⟨rfl, fun h => absurd h (Nat.lt_irrefl 0)⟩, Below.refl _ _⟩
  · go_enter Tryz.func68, Tryz.ntmps68
    go_wp2
    exact bodyPost_ret (v := .tuple #[.slice Option.none 0 0, .int .i64 2]) (by simp [results, Tryz.results68, go_sem]) rfl ⟨_, rfl, ⟨rfl, fun h => absurd h (Nat.lt_irrefl 0)⟩, Below.refl _ _⟩
  · go_enter Tryz.func68, Tryz.ntmps68
    go_wp2
    exact bodyPost_ret (v := .tuple #[.slice (some ⟨w.heap.size, 0, Option.none⟩) 1 1, .int .i64 1]) (by simp [results, Tryz.results68, go_sem]) rfl ⟨_, rfl, rws_ints w [1] (by decide), box_below w _⟩
  · go_enter Tryz.func68, Tryz.ntmps68
    go_wp2
    exact bodyPost_ret (v := .tuple #[.slice (some ⟨w.heap.size, 0, Option.none⟩) 1 1, .int .i64 1]) (by simp [results, Tryz.results68, go_sem]) rfl ⟨_, rfl, rws_ints w [1] (by decide), box_below w _⟩
  · go_enter Tryz.func68, Tryz.ntmps68
    go_wp2
    exact bodyPost_ret (v := .tuple #[.slice (some ⟨w.heap.size, 0, Option.none⟩) 1 1, .int .i64 1]) (by simp [results, Tryz.results68, go_sem]) rfl ⟨_, rfl, rws_ints w [1] (by decide), box_below w _⟩
  · go_enter Tryz.func68, Tryz.ntmps68
    go_wp2
    exact bodyPost_ret (v := .tuple #[.slice (some ⟨w.heap.size, 0, Option.none⟩) 1 1, .int .i64 1]) (by simp [results, Tryz.results68, go_sem]) rfl ⟨_, rfl, rws_ints w [1] (by decide), box_below w _⟩
  · go_enter Tryz.func68, Tryz.ntmps68
    go_wp2
    exact bodyPost_ret (v := .tuple #[.slice (some ⟨w.heap.size, 0, Option.none⟩) 1 1, .int .i64 1]) (by simp [results, Tryz.results68, go_sem]) rfl ⟨_, rfl, rws_ints w [1] (by decide), box_below w _⟩
  · go_enter Tryz.func68, Tryz.ntmps68
    go_wp2
    exact bodyPost_ret (v := .tuple #[.slice (some ⟨w.heap.size, 0, Option.none⟩) 2 2, .int .i64 1]) (by simp [results, Tryz.results68, go_sem]) rfl ⟨_, rfl, rws_ints w [1, 1] (by decide), box_below w _⟩
  · go_enter Tryz.func68, Tryz.ntmps68
    go_wp2
    exact bodyPost_ret (v := .tuple #[.slice (some ⟨w.heap.size, 0, Option.none⟩) 2 2, .int .i64 1]) (by simp [results, Tryz.results68, go_sem]) rfl ⟨_, rfl, rws_ints w [1, 1] (by decide), box_below w _⟩
  · go_enter Tryz.func68, Tryz.ntmps68
    go_wp2
    exact bodyPost_ret (v := .tuple #[.slice (some ⟨w.heap.size, 0, Option.none⟩) 2 2, .int .i64 1]) (by simp [results, Tryz.results68, go_sem]) rfl ⟨_, rfl, rws_ints w [1, 1] (by decide), box_below w _⟩
  · go_enter Tryz.func68, Tryz.ntmps68
    go_wp2
    exact bodyPost_ret (v := .tuple #[.slice (some ⟨w.heap.size, 0, Option.none⟩) 2 2, .int .i64 1]) (by simp [results, Tryz.results68, go_sem]) rfl ⟨_, rfl, rws_ints w [1, 1] (by decide), box_below w _⟩
  · go_enter Tryz.func68, Tryz.ntmps68
    go_wp2
    exact bodyPost_ret (v := .tuple #[.slice (some ⟨w.heap.size, 0, Option.none⟩) 2 2, .int .i64 2]) (by simp [results, Tryz.results68, go_sem]) rfl ⟨_, rfl, rws_ints w [1, 1] (by decide), box_below w _⟩
  · go_enter Tryz.func68, Tryz.ntmps68
    go_wp2
    exact bodyPost_ret (v := .tuple #[.slice (some ⟨w.heap.size, 0, Option.none⟩) 2 2, .int .i64 1]) (by simp [results, Tryz.results68, go_sem]) rfl ⟨_, rfl, rws_ints w [2, 2] (by decide), box_below w _⟩
  · go_enter Tryz.func68, Tryz.ntmps68
    go_wp2
    exact bodyPost_ret (v := .tuple #[.slice (some ⟨w.heap.size, 0, Option.none⟩) 2 2, .int .i64 1]) (by simp [results, Tryz.results68, go_sem]) rfl ⟨_, rfl, rws_ints w [2, 2] (by decide), box_below w _⟩
  · go_enter Tryz.func68, Tryz.ntmps68
    go_wp2
    exact bodyPost_ret (v := .tuple #[.slice (some ⟨w.heap.size, 0, Option.none⟩) 2 2, .int .i64 1]) (by simp [results, Tryz.results68, go_sem]) rfl ⟨_, rfl, rws_ints w [2, 2] (by decide), box_below w _⟩
  · go_enter Tryz.func68, Tryz.ntmps68
    go_wp2
    exact bodyPost_ret (v := .tuple #[.slice (some ⟨w.heap.size, 0, Option.none⟩) 2 2, .int .i64 2]) (by simp [results, Tryz.results68, go_sem]) rfl ⟨_, rfl, rws_ints w [2, 2] (by decide), box_below w _⟩
  · go_enter Tryz.func68, Tryz.ntmps68
    go_wp2
    exact bodyPost_ret (v := .tuple #[.slice (some ⟨w.heap.size, 0, Option.none⟩) 2 2, .int .i64 2]) (by simp [results, Tryz.results68, go_sem]) rfl ⟨_, rfl, rws_ints w [2, 2] (by decide), box_below w _⟩
  · go_enter Tryz.func68, Tryz.ntmps68
    go_wp2
    exact bodyPost_ret (v := .tuple #[.slice (some ⟨w.heap.size, 0, Option.none⟩) 2 2, .int .i64 2]) (by simp [results, Tryz.results68, go_sem]) rfl ⟨_, rfl, rws_ints w [2, 2] (by decide), box_below w _⟩
  · go_enter Tryz.func68, Tryz.ntmps68
    go_wp2
    exact bodyPost_ret (v := .tuple #[.slice (some ⟨w.heap.size, 0, Option.none⟩) 2 2, .int .i64 2]) (by simp [results, Tryz.results68, go_sem]) rfl ⟨_, rfl, rws_ints w [2, 2] (by decide), box_below w _⟩
  · go_enter Tryz.func68, Tryz.ntmps68
    go_wp2
    exact bodyPost_ret (v := .tuple #[.slice (some ⟨w.heap.size, 0, Option.none⟩) 1 1, .int .i64 2]) (by simp [results, Tryz.results68, go_sem]) rfl ⟨_, rfl, rws_ints w [2] (by decide), box_below w _⟩
  · go_enter Tryz.func68, Tryz.ntmps68
    go_wp2
    exact bodyPost_ret (v := .tuple #[.slice (some ⟨w.heap.size, 0, Option.none⟩) 3 3, .int .i64 0]) (by simp [results, Tryz.results68, go_sem]) rfl ⟨_, rfl, rws_ints w [1, 0, 0] (by decide), box_below w _⟩

/-- What is wanted of operand j, given all operands' kinds. -/
def wantAt (op : Int) (acc : List Int) (j : Nat) : Int := if (wantL op).getD j 0 = 0 then acc.getD 1 0 else (wantL op).getD j 0
theorem sig_pos (op : Int) : (sigP op).1 ≠ 0 ∧ (sigP op).2 ≠ 0 := by
  unfold sigP
  repeat' split
  all_goals exact ⟨by decide, by decide⟩
theorem want_len {op : Int} {acc : List Int} (hl : (acc.length : Int) = arityP op) : (wantL op).length = acc.length := by
  unfold wantL
  split
  · next h =>
    subst h
    have : arityP 16 = 3 := by decide
    show 3 = acc.length
    omega
  · rw [List.length_replicate]; omega
theorem want_rep {op : Int} {acc : List Int} (hl : (acc.length : Int) = arityP op) (h16 : op ≠ 16) {j : Nat} (hj : j < acc.length) : wantAt op acc j = (sigP op).1 := by
  have h : (wantL op).getD j 0 = (sigP op).1 := by
    unfold wantL
    rw [if_neg h16, List.getD_eq_getElem?_getD, List.getElem?_eq_getElem (by rw [List.length_replicate]; omega), List.getElem_replicate]
    rfl
  unfold wantAt
  rw [h, if_neg (sig_pos op).1]
theorem three_of {l : List Int} (h : l.length = 3) : ∃ a b c, l = [a, b, c] := by
  match l, h with
  | [a, b, c], _ => exact ⟨a, b, c, rfl⟩
theorem kind_ok {env : List Sg} {op : Int} {nm : List UInt8} {acc : List Int} (h3 : op ≠ 3) (hl : (acc.length : Int) = arityP op) (h : ∀ j, j < acc.length → acc.getD j 0 = wantAt op acc j) : chkN env op nm acc = (if wantR op = 0 then acc.getD 1 0 else wantR op, 0) := by
  by_cases h16 : op = 16
  · subst h16
    obtain ⟨a, b, c, rfl⟩ := three_of (l := acc) (by have : arityP 16 = 3 := by decide
                                                     omega)
    have h0 : a = 1 := h 0 (by show 0 < 3; decide)
    have h2 : c = b := h 2 (by show 2 < 3; decide)
    subst h0 h2
    rw [chkN_if, if_neg (by simp)]
    rfl
  · have ha : acc.all (fun k => decide (k = (sigP op).1)) = true := all_of (k := acc.length) (fun j hj => by rw [h j hj, want_rep hl h16 hj]) (Nat.le_refl _)
    have hR : wantR op = (sigP op).2 := if_neg h16
    rw [chkN_rest h3 h16, if_pos ha, hR, if_neg (sig_pos op).2]
theorem kind_bad {env : List Sg} {op : Int} {nm : List UInt8} {acc : List Int} (h3 : op ≠ 3) (hl : (acc.length : Int) = arityP op) {j : Nat} (hj : j < acc.length) (h : ¬ acc.getD j 0 = wantAt op acc j) : chkN env op nm acc = (0, 10) := by
  by_cases h16 : op = 16
  · subst h16
    obtain ⟨a, b, c, rfl⟩ := three_of (l := acc) (by have : arityP 16 = 3 := by decide
                                                     omega)
    have hj3 : j = 0 ∨ j = 1 ∨ j = 2 := by simp at hj; omega
    rcases hj3 with rfl | rfl | rfl
    · exact chkN_if.trans (if_pos (.inl h))
    · exact absurd rfl h
    · exact chkN_if.trans (if_pos (.inr fun q => h q.symm))
  · rw [want_rep hl h16 hj] at h
    rw [chkN_rest h3 h16, if_neg (not_all hj h)]

theorem upto_succK {P : Nat → Prop} {k : Nat} (h : ∀ j, j < k → P j) (hk : P k) : ∀ j, j < k + 1 → P j := by
  intro j hj
  rcases Nat.lt_succ_iff_lt_or_eq.1 hj with q | rfl
  · exact h j q
  · exact hk
def KnR (W0 : World) (env : List Sg) (nm : List UInt8) (g : Nat) (v : Value) (wr : World) : Prop := ∃ j : Nat, j ≤ env.length ∧ env.length - j < g ∧ v = .int .i64 (j : Int) ∧ (∀ i y, i < j → env[i]? = some y → y.nm ≠ nm) ∧ Below W0.heap.size W0 wr
def KkR (w : World) (d : Nat) (env : List Sg) (ks : List Ex) (total : Except Int (List Int)) (W0 : World) (g : Nat) (u v : Value) (wr : World) : Prop :=
  ∃ (k : Nat) (acc : List Int), acc.length = k ∧ k ≤ ks.length ∧ ks.length - k < g ∧ v = .int .i64 (k : Int) ∧ chkL (chkG env d) acc (ks.drop k) = total ∧ wr.ownsRow (w.heap.size + 1) 3 1 u k (acc.map fun n => Value.int .i64 n) ∧ Below (w.heap.size + 1) W0 wr
def KwR (W : World) (op : Int) (acc : List Int) (n : Nat) (g : Nat) (v : Value) (wq : World) : Prop := ∃ k : Nat, k ≤ n ∧ n - k < g ∧ v = .int .i64 (k : Int) ∧ wq = W ∧ ∀ j, j < k → acc.getD j 0 = wantAt op acc j
theorem kindOf_at {env : List Sg} {nm : List UInt8} {j : Nat} {y : Sg} (h : ∀ i y, i < j → env[i]? = some y → y.nm ≠ nm) (hy : env[j]? = some y) (hn : y.nm = nm) : kindOf env nm = some y.kind := by
  have hj := (List.getElem?_eq_some_iff.1 hy).1
  have he : env = env.take j ++ y :: env.drop (j + 1) := by
    have h1 : env.drop j = y :: env.drop (j + 1) := by
      rw [List.drop_eq_getElem_cons hj]
      rw [List.getElem?_eq_getElem hj] at hy
      injection hy with hy
      rw [hy]
    rw [← h1, List.take_append_drop]
  have h0 : (env.take j).find? (fun x => decide (x.nm = nm)) = none := by
    rw [List.find?_eq_none]
    intro x hx
    obtain ⟨i, hi, rfl⟩ := List.getElem_of_mem hx
    rw [List.length_take] at hi
    have := h i _ (by omega) (List.getElem?_eq_getElem (by omega))
    simpa [List.getElem_take] using this
  unfold kindOf
  rw [he, List.find?_append, h0]
  simp [hn]
theorem kindOf_end {env : List Sg} {nm : List UInt8} (h : ∀ i y, i < env.length → env[i]? = some y → y.nm ≠ nm) : kindOf env nm = none := by
  refine kindOf_none fun y hy => ?_
  obtain ⟨j, hj, rfl⟩ := List.getElem_of_mem hy
  exact h j _ hj (List.getElem?_eq_getElem hj)
theorem ints_snoc (acc : List Int) (k2 : Int) : (acc.map fun n => Value.int .i64 n) ++ (#[Value.int .i64 k2] : Array Value).toList = (acc ++ [k2]).map fun n => Value.int .i64 n := by simp
theorem ints_cell {W : World} {base : Nat} {A : Option Addr} {c : Nat} {acc : List Int} {n : Nat} (h : W.ownsRow base 3 1 (.slice A n c) n (acc.map fun n => Value.int .i64 n)) (hn : acc.length = n) {j : Nat} (hj : j < n) : ∃ g, A = some ⟨g, 0, Option.none⟩ ∧ base ≤ g ∧ g < W.heap.size ∧ ∀ i, i < n → W.cell? ⟨g, i, Option.none⟩ = some (.int .i64 (acc.getD i 0)) := by
  obtain ⟨g, cap, hv, hlo, hlt⟩ := h.form (by omega)
  have hA : A = some ⟨g, 0, Option.none⟩ := by injection hv
  subst hA
  refine ⟨g, rfl, hlo, hlt, fun i hi => ?_⟩
  have := h.cells (g := g) rfl i (.int .i64 (acc.getD i 0)) (by
    rw [List.getElem?_map, List.getD_eq_getElem?_getD, List.getElem?_eq_getElem (by omega)]
    rfl)
  rw [Addr.add_mid, Nat.zero_add] at this
  exact this
theorem Rws.intAt {B n : Nat} {w : World} {A : Option Addr} {xs : List Int} (h : Rws IntC 1 w B A n xs) {k : Nat} (hk : k < n) :
    ∃ b o, A = some ⟨b, o, none⟩ ∧ b < B ∧ w.cell? ⟨b, o + k, none⟩ = some (.int .i64 (xs.getD k 0)) := by
  obtain ⟨b, o, cs, x, e, hlt, hx, _, ⟨rfl, _⟩, hat⟩ := h.at_ hk
  refine ⟨b, o, e, hlt, ?_⟩
  rw [List.getD_eq_getElem?_getD, hx]
  simpa using hat 0 _ rfl

set_option maxRecDepth 100000 in
set_option maxHeartbeats 8000000 in
theorem rkind_any : ∀ (d : Nat) (op n : Int) (nm : List UInt8) (A : Option Addr) (c : Nat) (ks : List Ex) (w : World) (A' : Option Addr) (c' : Nat) (env : List Sg), okG d (.mk op n nm ks) → ks.length ≤ c → c ≤ maxLen → ExP op n nm → Rw ExV 4 w (fun b => b < w.heap.size) A ks.length ks →
    env.length ≤ c' → c' ≤ maxLen → Rw SgC 2 w (fun b => b < w.heap.size) A' env.length env →
    Calls Tryz.prog 48 #[exV op n nm A ks.length c, .slice A' env.length c'] w (RetTwo (chkG env d (.mk op n nm ks)) w)
  | 0, _, _, _, _, _, _, _, _, _, _, h, _, _, _, _, _, _, _ => h.elim
  | d + 1, op, n, nm, A, c, ks, w, A', c', env, hok, hc, hm, hp, hr, hc', hm', hr' => by
    have ih := fun op n nm A c ks w => rkind_any d op n nm A c ks w A' c' env
    obtain ⟨hnode, hkids⟩ := hok
    have hna := node_arity hnode
    obtain ⟨hk3, hop1, hop2, h16, h03⟩ := arity_three hna
    have hv : chkG env (d + 1) (.mk op n nm ks) = match chkL (chkG env d) [] ks with
      | .error e => (0, e)
      | .ok l => chkN env op nm l := rfl
    have hX := XV.new w op n nm A ks.length c
    have hb1 := box_below w (Obj.cells #[.int .i64 op, .int .i64 n, .string ⟨nm.toArray⟩, .slice A ks.length c] 25)
    have HIH := Lib.hid ih
    have HK := Lib.hid hkids
    have HR := Lib.hid hr
    have HR' := Lib.hid hr'
    have HV := Lib.hid hv
    have HX := Lib.hid hX
    have HB := Lib.hid hb1
    have HNA := Lib.hid hna
    have HC' := Lib.hid hc'
    have HM' := Lib.hid hm'
    clear ih hkids hr hr' hv hX hb1 hnode hp hna
    unfold maxLen at hm hm'
    unfold exV
    by_cases ho3 : op = 3
    · subst ho3
      obtain rfl : ks = [] := List.length_eq_zero_iff.1 (h03 rfl)
      have HV3 := Lib.hid (show chkG env (d + 1) (.mk 3 n nm []) = chkN env 3 nm [] from HV.out)
      clear h16 h03 HK HIH HV
      show Calls _ _ #[.agg #[_, _, _, .slice A 0 c], _] _ _
      go_enter Tryz.func48, Tryz.ntmps48
      go_wp2
      go_loopg [22] (env.length + 1) (fun g v wr => KnR (w.alloc (Obj.cells #[.int .i64 3, .int .i64 n, .string ⟨nm.toArray⟩, .slice A 0 c] 25)) env nm g v wr)
      case atStart => exact ⟨0, Nat.zero_le _, by omega, rfl, fun i y h => absurd h (Nat.not_lt_zero _), Below.refl _ _⟩
      case round =>
        obtain ⟨j, hj, hgj, rfl, hall, hbq⟩ := hrel
        have HALL := Lib.hid hall
        have hbw := below_two HB.out hbq HB.out.size
        have hsq := hbq.size
        simp only [World.size_alloc] at hsq
        clear hall
        by_cases hjk : j < env.length
        case neg =>
          obtain rfl : j = env.length := by omega
          have HN := Lib.hid (show chkN env 3 nm [] = (0, 9) from chkN_name (by rw [kindOf_end HALL.out]))
          have HBW := Lib.hid hbw
          clear hbq hbw
          go_wp2
          refine bodyPost_ret (v := .tuple #[.int .i64 0, .int .i64 9]) (by simp [results, Tryz.results48, go_sem]) rfl ⟨?_, HBW.out⟩
          rw [HV3.out, HN.out]
        obtain ⟨b', o', s', hA', hSb', hx', hxl', hxw', u0, u1⟩ := sgAt (HR'.out.mono SgC.mono (fun _ q => q) (keepOn_below hbw fun _ q => q)) hjk
        subst hA'
        obtain ⟨nm', kd'⟩ := s'
        dsimp only at *
        have hbk' : b' < wr.heap.size := by omega
        have hzz : w.heap.size < wr.heap.size := by omega
        obtain ⟨z0, z1, z2, z3, -, -, -, -⟩ := (HX.out.below hbq).cells
        have hbx' := box_below wr (Obj.cells #[.string ⟨nm'.toArray⟩, .int .i64 kd'] 69)
        have HBQ := Lib.hid (below_two hbq hbx' hbq.size)
        have HBW := Lib.hid (below_two hbw hbx' hbw.size)
        have HX' := Lib.hid hx'
        clear hbq hbw hbx' hx' hSb'
        by_cases he : nm' = nm
        · have e1 : (nm' == nm) = true := by simp [he]
          have HN := Lib.hid (show chkN env 3 nm [] = (kd', 0) from chkN_name (by rw [kindOf_at HALL.out HX'.out he]))
          clear he
          go_wp2
          refine bodyPost_ret (v := .tuple #[.int .i64 kd', .int .i64 0]) (by simp [results, Tryz.results48, go_sem]) rfl ⟨?_, HBW.out⟩
          rw [HV3.out, HN.out]
        · have e1 : (nm' == nm) = false := by simp [he]
          have HS := Lib.hid (ge_succ HALL.out HX'.out he)
          clear he
          go_wp2
          go_roundg (env.length - j)
          case measure => omega
          case rel => exact ⟨j + 1, by omega, by omega, by go_num, HS.out, HBQ.out⟩
    have o3 : (op == 3) = false := by simp [ho3]
    have H16 := Lib.hid h16
    have HO3 := Lib.hid ho3
    have HW := Lib.hid (fun W => rwants_any op W hop1 hop2 ho3)
    obtain ⟨i, hi, hz0, hz1, hz2⟩ := info_parts infoInt
    have HI := Lib.hid (And.intro hi (And.intro hz0 (And.intro hz1 hz2)))
    clear h16 h03 ho3 hi hz0 hz1 hz2
    go_enter Tryz.func48, Tryz.ntmps48
    go_wp2
    go_loopg [8, 37] (ks.length + 1) (fun g u v wr => KkR w d env ks (chkL (chkG env d) [] ks) (w.alloc (Obj.cells #[.int .i64 op, .int .i64 n, .string ⟨nm.toArray⟩, .slice A ks.length c] 25)) g u v wr)
    case atStart => exact ⟨0, [], rfl, Nat.zero_le _, by omega, rfl, by rw [List.drop_zero], World.ownsRow_nil _ _ _ _, Below.refl _ _⟩
    case round =>
      obtain ⟨k, acc, hal, hk, hgk, rfl, htot, hown, hbq⟩ := hrel
      obtain ⟨A8, c8, rfl, hc8, hm8⟩ := own_shape hown
      have hbx0 : Below (w.alloc (Obj.cells #[.int .i64 op, .int .i64 n, .string ⟨nm.toArray⟩, .slice A ks.length c] 25)).heap.size (w.alloc (Obj.cells #[.int .i64 op, .int .i64 n, .string ⟨nm.toArray⟩, .slice A ks.length c] 25)) wr := hbq.mono (by rw [World.size_alloc]; exact Nat.le_refl _)
      have hbel := below_two HB.out hbx0 HB.out.size
      have hsw := hbx0.size
      simp only [World.size_alloc] at hsw
      unfold maxLen at hm8
      by_cases hlt : k < ks.length
      case pos =>
        obtain ⟨b, o, op2, n2, nm2, A2, c2, ys, hA, hSb, hky, hc2, hm2, hp2, hr2, hxb⟩ := exAt (HR.out.mono ExV.mono (fun _ q => q) (keepOn_below hbel fun _ q => q)) hlt
        subst hA
        obtain ⟨y0, y1, y2, y3⟩ := hxb
        have hget : ks[k] = .mk op2 n2 nm2 ys := by
          rw [List.getElem?_eq_getElem hlt] at hky
          injection hky
        rw [List.drop_eq_getElem_cons hlt, hget] at htot
        rw [chkL_cons] at htot
        have hbx := box_below wr (Obj.cells #[.int .i64 op2, .int .i64 n2, .string ⟨nm2.toArray⟩, .slice A2 ys.length c2] 25)
        have hin : Ex.mk op2 n2 nm2 ys ∈ ks := hget ▸ List.getElem_mem hlt
        have hbx2 := below_two hbel hbx hbel.size
        have C := HIH.out op2 n2 nm2 A2 c2 ys (wr.alloc (Obj.cells #[.int .i64 op2, .int .i64 n2, .string ⟨nm2.toArray⟩, .slice A2 ys.length c2] 25)) (HK.out _ hin) hc2 hm2 hp2
          (hr2.mono ExV.mono (fun b hb => by simp only [World.size_alloc]; omega) (keepOn_below hbx fun b hb => by omega)) HC'.out HM'.out
          (HR'.out.mono SgC.mono (fun b hb => Nat.lt_of_lt_of_le hb hbx2.size) (keepOn_below hbx2 fun _ q => q))
        generalize chkG env d (.mk op2 n2 nm2 ys) = r2 at *
        obtain ⟨k2, e2⟩ := r2
        unfold exV at C
        dsimp only at htot
        have HC := Lib.hid C
        have HT := Lib.hid htot
        have HB2 := Lib.hid hbx2
        have HB3 := Lib.hid (hbq.alloc (show w.heap.size + 1 ≤ wr.heap.size from hsw) (Obj.cells #[.int .i64 op2, .int .i64 n2, .string ⟨nm2.toArray⟩, .slice A2 ys.length c2] 25))
        have HO2 := Lib.hid (hown.alloc (Obj.cells #[.int .i64 op2, .int .i64 n2, .string ⟨nm2.toArray⟩, .slice A2 ys.length c2] 25))
        have hbk : b < wr.heap.size := by omega
        have HAL := Lib.hid hal
        clear C htot hbx hbx2 hown hbel hky hget hr2 hin hp2 hSb hal hbq hbx0
        unfold maxLen at hm2
        by_cases he : e2 = 0
        case neg =>
          have hne : (e2 != 0) = true := by simp [he]
          have HT2 := Lib.hid (show chkL (chkG env d) [] ks = .error e2 by rw [← HT.out, if_neg he])
          clear he
          go_wp2_with fail
          refine HC.out.mono ?_
          rintro e w5 ⟨rfl, hb5⟩
          dsimp only
          have HB5 := Lib.hid (below_two HB2.out hb5 HB2.out.size)
          clear hb5
          go_wp2
          refine bodyPost_ret (v := .tuple #[.int .i64 0, .int .i64 e2]) (by simp [results, Tryz.results48, go_sem]) rfl ⟨?_, HB5.out⟩
          rw [HV.out, HT2.out]
        subst he
        have HT2 := Lib.hid (show chkL (chkG env d) (acc ++ [k2]) (ks.drop (k + 1)) = chkL (chkG env d) [] ks by rw [← HT.out, if_pos rfl])
        obtain ⟨i1, i2, i3, i4⟩ := HI.out
        have HI1 := Lib.hid i1
        have HI2 := Lib.hid i2
        have HI3 := Lib.hid i3
        have HI4 := Lib.hid i4
        clear i1 i2 i3 i4
        go_wp2_with fail
        refine HC.out.mono ?_
        rintro e w5 ⟨rfl, hb5⟩
        dsimp only
        have hs5 := hb5.size
        simp only [World.size_alloc] at hs5
        have HB5 := Lib.hid (HB3.out.trans (hb5.mono (by simp only [World.size_alloc]; omega)))
        have HO5 := Lib.hid (own_below HO2.out hb5 (Nat.le_refl _))
        have hsz5 : w.heap.size + 1 ≤ w5.heap.size := by omega
        clear hb5
        go_wp2_with (at_builtin; refine wpList_push (o := ⟨some 53, _, _, _, _, _⟩) _ _ 86 rfl rfl Tryz.underlying86 HI1.out HI2.out HI3.out HI4.out rfl (by decide) rfl HO5.out HB5.out _ rfl rfl rfl (by simp [Value.oneCell']) (by omega) (by unfold maxLen; omega) hsz5 ?_; intro v' w' hown' hbel' _)
        rw [ints_snoc] at hown'
        have HO6 := Lib.hid hown'
        have HB6 := Lib.hid hbel'
        clear hown' hbel'
        go_wp2
        go_roundg (ks.length - k)
        case measure => omega
        case rel => exact ⟨k + 1, acc ++ [k2], by rw [List.length_append, HAL.out]; rfl, by omega, by omega, by go_num, HT2.out, HO6.out, HB6.out⟩
      obtain rfl : k = ks.length := by omega
      rw [List.drop_length] at htot
      have hE : chkG env (d + 1) (.mk op n nm ks) = chkN env op nm acc := by rw [HV.out, ← htot]; rfl
      obtain ⟨x0, x1, x2, x3, -, -, -, -⟩ := (HX.out.below hbx0).cells
      have hna2 : (acc.length : Int) = arityP op := by rw [hal]; exact HNA.out
      have HE := Lib.hid hE
      have HWL := Lib.hid (want_len hna2)
      have HNB := Lib.hid (fun j => @kind_bad env op nm acc HO3.out hna2 j)
      have HNO := Lib.hid (@kind_ok env op nm acc HO3.out hna2)
      have HBW := Lib.hid hbel
      have HAL := Lib.hid hal
      have HOW := Lib.hid hown
      have HL1 := Lib.hid (fun j (hj : j < ks.length) (h : (wantL op).getD j 0 = 0) => show 2 ≤ ks.length by
        have hw : op = 16 := by
          rcases Classical.em (op = 16) with q | q
          · exact q
          · exfalso
            have h1 := want_rep hna2 q (j := j) (by omega)
            have h2 := (sig_pos op).1
            have h3 : (wantL op).getD j 0 = (sigP op).1 := by
              unfold wantL
              rw [if_neg q, List.getD_eq_getElem?_getD, List.getElem?_eq_getElem (by rw [List.length_replicate]; omega), List.getElem_replicate]
              rfl
            rw [h3] at h
            exact h2 h
        have := H16.out hw
        omega)
      have HR0 := Lib.hid (fun (h : wantR op = 0) => show 2 ≤ ks.length by
        have hw : op = 16 := by
          rcases Classical.em (op = 16) with q | q
          · exact q
          · exfalso
            unfold wantR at h
            rw [if_neg q] at h
            exact (sig_pos op).2 h
        have := H16.out hw
        omega)
      clear hE hbel hal htot hown HX HB HIH HK HR HR' HV hlt hbx0 hbq hna2 HNA H16
      obtain ⟨wl, hwl⟩ : ∃ wl, wantL op = wl := ⟨_, rfl⟩
      have C2 := HW.out wr
      unfold RetWants at C2
      rw [hwl] at C2
      rw [hwl] at HWL
      have HWE := Lib.hid hwl
      have hwll : wl.length = ks.length := by rw [HWL.out, HAL.out]
      rw [hwll] at C2
      have HC2 := Lib.hid C2
      clear C2 hwl hwll HW
      obtain ⟨wr0, hwr0⟩ : ∃ wr0, wantR op = wr0 := ⟨_, rfl⟩
      rw [hwr0] at HC2
      have HWR := Lib.hid hwr0
      clear hwr0
      go_wp2_with fail
      refine HC2.out.mono ?_
      rintro e w6 ⟨A6, rfl, hrw6, hb6⟩
      have HB6 := Lib.hid (below_two HBW.out hb6 HBW.out.size)
      have HO6 := Lib.hid (own_below HOW.out hb6 (Nat.le_refl _))
      have HR6 := Lib.hid hrw6
      clear hrw6 hb6 x0 x1 x2 x3
      go_wp2
      go_loopg [63] (ks.length + 1) (fun g v wq => KwR w6 op acc ks.length g v wq)
      case atStart => exact ⟨0, Nat.zero_le _, by omega, rfl, rfl, fun j h => absurd h (Nat.not_lt_zero _)⟩
      case round =>
        obtain ⟨k, hk, hg2, rfl, rfl, hall⟩ := hrel
        have HALL := Lib.hid hall
        clear hall
        by_cases hlt : k < ks.length
        case neg =>
          obtain rfl : k = ks.length := by omega
          have HF := Lib.hid (HNO.out (by rw [HAL.out]; exact HALL.out))
          by_cases hr0 : wr0 = 0
          · subst hr0
            have h2 := HR0.out HWR.out
            obtain ⟨g8, hA8, hlo8, hlt8, hc8'⟩ := ints_cell HO6.out HAL.out (j := 1) (by omega)
            subst hA8
            have hcc := hc8' 1 (by omega)
            obtain ⟨a1, ha1⟩ : ∃ a1, acc.getD 1 0 = a1 := ⟨_, rfl⟩
            rw [ha1] at hcc
            have HF2 := Lib.hid (show chkN env op nm acc = (a1, 0) by rw [HF.out, HWR.out, if_pos rfl, ha1])
            clear hc8' ha1
            have h2' : 1 < ks.length := h2
            go_wp2
            refine bodyPost_ret (v := .tuple #[.int .i64 a1, .int .i64 0]) (by simp [results, Tryz.results48, go_sem]) rfl ⟨?_, HB6.out⟩
            rw [HE.out, HF2.out]
          · have r0 : (wr0 == 0) = false := by simp [hr0]
            have HF2 := Lib.hid (show chkN env op nm acc = (wr0, 0) by rw [HF.out, HWR.out, if_neg hr0])
            clear hr0
            go_wp2
            refine bodyPost_ret (v := .tuple #[.int .i64 wr0, .int .i64 0]) (by simp [results, Tryz.results48, go_sem]) rfl ⟨?_, HB6.out⟩
            rw [HE.out, HF2.out]
        obtain ⟨g8, hA8, hlo8, hlt8, hc8'⟩ := ints_cell HO6.out HAL.out hlt
        subst hA8
        have hck := hc8' k hlt
        obtain ⟨b6, o6, hA6, hb6, hc6⟩ := HR6.out.intAt hlt
        subst hA6
        obtain ⟨ak, hak⟩ : ∃ ak, acc.getD k 0 = ak := ⟨_, rfl⟩
        obtain ⟨wk, hwk⟩ : ∃ wk, wl.getD k 0 = wk := ⟨_, rfl⟩
        rw [hak] at hck
        rw [hwk] at hc6
        have HAK := Lib.hid hak
        have HWK := Lib.hid hwk
        clear hak hwk
        by_cases hw0 : wk = 0
        · have h2 : 1 < ks.length := HL1.out k hlt (by rw [HWE.out, HWK.out, hw0])
          have hc1 := hc8' 1 h2
          obtain ⟨a1, ha1⟩ : ∃ a1, acc.getD 1 0 = a1 := ⟨_, rfl⟩
          rw [ha1] at hc1
          have hwa : wantAt op acc k = a1 := by unfold wantAt; rw [HWE.out, HWK.out, if_pos hw0, ha1]
          clear hc8' ha1
          subst hw0
          by_cases hv : ak = a1
          · have HS := Lib.hid (upto_succK (P := fun j => acc.getD j 0 = wantAt op acc j) HALL.out (by rw [HAK.out, hwa]; exact hv))
            have v1 : (ak != a1) = false := by simp [hv]
            clear hv hwa
            go_wp2
            go_roundg (ks.length - k)
            case measure => omega
            case rel => exact ⟨k + 1, hlt, by omega, by go_num, rfl, HS.out⟩
          · have HF := Lib.hid (HNB.out k (by rw [HAL.out]; exact hlt) (by rw [HAK.out, hwa]; exact hv))
            have v1 : (ak != a1) = true := by simp [hv]
            clear hv hwa
            go_wp2
            refine bodyPost_ret (v := .tuple #[.int .i64 0, .int .i64 10]) (by simp [results, Tryz.results48, go_sem]) rfl ⟨?_, HB6.out⟩
            rw [HE.out, HF.out]
        · have hw1 : (wk == 0) = false := by simp [hw0]
          have hwa : wantAt op acc k = wk := by unfold wantAt; rw [HWE.out, HWK.out, if_neg hw0]
          clear hc8' hw0
          by_cases hv : ak = wk
          · have HS := Lib.hid (upto_succK (P := fun j => acc.getD j 0 = wantAt op acc j) HALL.out (by rw [HAK.out, hwa]; exact hv))
            have v1 : (ak != wk) = false := by simp [hv]
            clear hv hwa
            go_wp2
            go_roundg (ks.length - k)
            case measure => omega
            case rel => exact ⟨k + 1, hlt, by omega, by go_num, rfl, HS.out⟩
          · have HF := Lib.hid (HNB.out k (by rw [HAL.out]; exact hlt) (by rw [HAK.out, hwa]; exact hv))
            have v1 : (ak != wk) = true := by simp [hv]
            clear hv hwa
            go_wp2
            refine bodyPost_ret (v := .tuple #[.int .i64 0, .int .i64 10]) (by simp [results, Tryz.results48, go_sem]) rfl ⟨?_, HB6.out⟩
            rw [HE.out, HF.out]
end Go.Proofs.YtmbmngnnfkdngaaGreatDoor

/-
  The reference's Check.
-/
namespace Go.Proofs.YtmbmngnnfkdngaaGreatDoor
open Go.RowKit

set_option maxRecDepth 100000 in
set_option maxHeartbeats 4000000 in
theorem rCheck_any {w : World} {op n : Int} {nm : List UInt8} {A : Option Addr} {c : Nat} {ks : List Ex} (h : XI w op n nm A c ks) (hs : ∀ d, inG d (.mk op n nm ks) → szG d (.mk op n nm ks) ≤ 1000000000000000000) (A' : Option Addr) (c' : Nat) (env : List Sg) (hc' : env.length ≤ c') (hm' : c' ≤ maxLen) (hr' : Rw SgC 2 w (fun b => b < w.heap.size) A' env.length env) :
    Calls Tryz.prog 30 #[.agg #[.int .i64 op, .int .i64 n, .string ⟨nm.toArray⟩, .slice A ks.length c], .slice A' env.length c'] w (RetTwo (checkP (.mk op n nm ks) env) w) := by
  have hbx := box_below w (Obj.cells #[.int .i64 op, .int .i64 n, .string ⟨nm.toArray⟩, .slice A ks.length c] 25)
  have hX := XV.new w op n nm A ks.length c
  have hrB : ∀ W, Below w.heap.size w W → Rw SgC 2 W (fun b => b < W.heap.size) A' env.length env := fun W hb => hr'.mono SgC.mono (fun _ q => Nat.lt_of_lt_of_le q hb.size) (keepOn_below hb fun _ q => q)
  have C1 := rvalid_in (h.below hbx) hs
  have HX := Lib.hid hX
  have HI := Lib.hid h
  have HB := Lib.hid hbx
  have HRB := Lib.hid hrB
  have HP := Lib.hid (show checkP (.mk op n nm ks) env = if goodP env = false ∨ validP (.mk op n nm ks) = false then (0, 1) else chkG env 16 (.mk op n nm ks) from rfl)
  have HVO := Lib.hid (fun q : validP (.mk op n nm ks) = true => valid_ok q)
  have HC' := Lib.hid hc'
  have HM' := Lib.hid hm'
  unfold maxLen at hm'
  clear hbx hX h hr' hrB hs
  generalize validP (.mk op n nm ks) = bv at *
  have HC1 := Lib.hid C1
  clear C1
  go_enter Tryz.func30, Tryz.ntmps30
  go_wp2_with fail
  refine HC1.out.mono ?_
  rintro e w1 ⟨rfl, hb1⟩
  have HB1 := Lib.hid (below_two HB.out hb1 HB.out.size)
  have HX1 := Lib.hid (HX.out.below hb1)
  clear hb1
  cases bv with
  | false =>
    have HF := Lib.hid (HP.out.trans (if_pos (.inr rfl)))
    go_wp2
    refine bodyPost_ret (v := .tuple #[.int .i64 0, .int .i64 1]) (by simp [results, Tryz.results30, go_sem]) rfl ⟨?_, HB1.out⟩
    rw [HF.out]
  | true =>
  have C2 := rgood_any A' c' env w1 HC'.out HM'.out (HRB.out w1 HB1.out)
  have HOK := Lib.hid (HVO.out rfl)
  clear HVO
  cases hg : goodP env with
  | false =>
    have HF := Lib.hid (HP.out.trans (if_pos (.inl hg)))
    rw [hg] at C2
    have HC2 := Lib.hid C2
    clear C2 hg
    go_wp2_with fail
    refine HC2.out.mono ?_
    rintro e w2 ⟨rfl, hb2⟩
    have HB2 := Lib.hid (below_two HB1.out hb2 HB1.out.size)
    go_wp2
    refine bodyPost_ret (v := .tuple #[.int .i64 0, .int .i64 1]) (by simp [results, Tryz.results30, go_sem]) rfl ⟨?_, HB2.out⟩
    rw [HF.out]
  | true =>
    have HF := Lib.hid (HP.out.trans (if_neg (by rw [hg]; simp)))
    rw [hg] at C2
    have HC2 := Lib.hid C2
    clear C2 hg
    go_wp2_with fail
    refine HC2.out.mono ?_
    rintro e w2 ⟨rfl, hb2⟩
    have HB2 := Lib.hid (below_two HB1.out hb2 HB1.out.size)
    obtain ⟨z0, z1, z2, z3, -, -, -, -⟩ := (HX1.out.below hb2).cells
    have hI2 := HI.out.below HB2.out
    have C3 := rkind_any 16 op n nm A c ks w2 A' c' env HOK.out hI2.hc hI2.hm hI2.hp hI2.rw HC'.out HM'.out (HRB.out w2 HB2.out)
    unfold exV at C3
    have HC3 := Lib.hid C3
    clear C3 hI2 hb2
    go_wp2_with fail
    refine HC3.out.mono ?_
    rintro e w3 ⟨rfl, hb3⟩
    have HB3 := Lib.hid (below_two HB2.out hb3 HB2.out.size)
    clear hb3
    generalize chkG env 16 (.mk op n nm ks) = r at *
    obtain ⟨r1, r2⟩ := r
    dsimp only
    go_wp2
    refine bodyPost_ret (v := .tuple #[.int .i64 r1, .int .i64 r2]) (by simp [results, Tryz.results30, go_sem]) rfl ⟨?_, HB3.out⟩
    rw [HF.out]
end Go.Proofs.YtmbmngnnfkdngaaGreatDoor
