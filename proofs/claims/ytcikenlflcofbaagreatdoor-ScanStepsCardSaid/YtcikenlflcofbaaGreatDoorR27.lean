/-
  The reference's small functions on instructions: Operands, HasCell, index, Inputs, fits, wants.
-/
import Derived.Test.YtcikenlflcofbaaGreatDoorRN
import Derived.Test.YtcikenlflcofbaaGreatDoorVfH
namespace Go.Proofs.YtcikenlflcofbaaGreatDoor
open Go.RowKit

theorem opn_arity7 {op : Int} (h1 : op ≠ 30) (h2 : op ≠ 31) (h3 : op ≠ 32) (h4 : op ≠ 3) : arityP op = opnP op := by
  unfold arityP opnP
  repeat' split
  all_goals omega
set_option maxRecDepth 100000 in
set_option maxHeartbeats 4000000 in
theorem roperands_any (op : Int) (w : World) : Calls Tryz.prog 38 #[.int .i64 op] w (RetIs (opnP op) w) := by
  by_cases h : op = 30 ∨ op = 31 ∨ op = 32 ∨ op = 3
  · rcases h with rfl | rfl | rfl | rfl
    all_goals
      go_enter Tryz.func38, Tryz.ntmps38
      go_wp2
      go_ret
      exact ⟨rfl, rfl⟩
  have h30 : (op == 30) = false := by simp; omega
  have h31 : (op == 31) = false := by simp; omega
  have h32 : (op == 32) = false := by simp; omega
  have h3 : (op == 3) = false := by simp; omega
  have HA := Lib.hid (fun W => rarity_any op W)
  have HO := Lib.hid (opn_arity7 (op := op) (by omega) (by omega) (by omega) (by omega))
  clear h
  go_enter Tryz.func38, Tryz.ntmps38
  go_wp2_with fail
  refine (HA.out _).mono ?_
  rintro e w5 ⟨rfl, rfl⟩
  go_wp2
  go_ret
  exact ⟨ret_int HO.out, rfl⟩
set_option maxRecDepth 100000 in
set_option maxHeartbeats 4000000 in
theorem rhas_any (op : Int) (w : World) : Calls Tryz.prog 32 #[.int .i64 op] w (RetBs (keptB op) w) := by
  rcases (show op < 17 ∨ (17 ≤ op ∧ op ≤ 22) ∨ (17 ≤ op ∧ 22 < op) by omega) with h | ⟨h, h'⟩ | ⟨h, h'⟩
  · have HE := Lib.hid (show false = keptB op by unfold keptB; simp; omega)
    have hd : decide (17 ≤ op) = false := by simp; omega
    go_enter Tryz.func32, Tryz.ntmps32
    go_wp2
    go_ret
    exact ⟨ret_bool HE.out, rfl⟩
  · have HE := Lib.hid (show true = keptB op by unfold keptB; simp; omega)
    go_enter Tryz.func32, Tryz.ntmps32
    go_wp2
    go_ret
    exact ⟨ret_bool HE.out, rfl⟩
  · have HE := Lib.hid (show false = keptB op by unfold keptB; simp; omega)
    have hd : decide (op ≤ 22) = false := by simp; omega
    go_enter Tryz.func32, Tryz.ntmps32
    go_wp2
    go_ret
    exact ⟨ret_bool HE.out, rfl⟩

/-- The first place of a name, or -1. -/
def idxG (s : List UInt8) : List (List UInt8) → Int → Int
  | [], _ => -1
  | x :: l, i => if x = s then i else idxG s l (i + 1)
theorem idxG_cons (s x : List UInt8) (l : List (List UInt8)) (i : Int) : idxG s (x :: l) i = if x = s then i else idxG s l (i + 1) := rfl
theorem idxG_ge {s : List UInt8} : ∀ {l : List (List UInt8)} {i : Int}, 0 ≤ i → (0 ≤ idxG s l i ↔ s ∈ l)
  | [], i, _ => by simp [idxG]
  | x :: l, i, h => by
    rw [idxG_cons]
    by_cases e : x = s
    · rw [if_pos e]
      exact ⟨fun _ => by rw [e]; exact List.mem_cons_self, fun _ => h⟩
    · rw [if_neg e, idxG_ge (by omega), List.mem_cons]
      exact ⟨.inr, fun q => q.resolve_left fun q => e q.symm⟩
def IxR (W : World) (s : List UInt8) (l : List (List UInt8)) (g : Nat) (v : Value) (wr : World) : Prop :=
  ∃ k : Nat, k ≤ l.length ∧ l.length - k < g ∧ v = .int .i64 (k : Int) ∧ idxG s (l.drop k) k = idxG s l 0 ∧ Below W.heap.size W wr
set_option maxRecDepth 100000 in
set_option maxHeartbeats 4000000 in
theorem rindex_any (A : Option Addr) (c : Nat) (l : List (List UInt8)) (s : List UInt8) (w : World) (hm : l.length ≤ maxLen) (hr : Rw NmC 1 w (Old w) A l.length l) :
    Calls Tryz.prog 52 #[.slice A l.length c, .string ⟨s.toArray⟩] w (RetIB (idxG s l 0) w) := by
  have HR := Lib.hid hr
  unfold maxLen at hm
  clear hr
  go_enter Tryz.func52, Tryz.ntmps52
  go_wp2
  go_loopg [8] (l.length + 1) (fun g v wr => IxR w s l g v wr)
  case atStart => exact ⟨0, Nat.zero_le _, by omega, rfl, by rw [List.drop_zero]; rfl, Below.refl _ _⟩
  case round =>
    obtain ⟨k, hk, hgk, rfl, hix, hbel⟩ := hrel
    by_cases hlt : k < l.length
    case neg =>
      obtain rfl : k = l.length := by omega
      rw [List.drop_length] at hix
      have HIX := Lib.hid (show (-1 : Int) = idxG s l 0 from hix)
      clear hix
      go_wp2
      go_ret
      exact ⟨ret_int HIX.out, hbel⟩
    obtain ⟨b, o, x, hA, hSb, hx, hxl, y0⟩ := nmAt (HR.out.mono NmC.mono (fun _ q => q) (keepOn_below hbel fun _ q => q)) hlt
    subst hA
    have hget : l[k] = x := by
      rw [List.getElem?_eq_getElem hlt] at hx
      injection hx
    rw [List.drop_eq_getElem_cons hlt, hget, idxG_cons] at hix
    have hbk : b < wr.heap.size := Nat.lt_of_lt_of_le hSb hbel.size
    by_cases e : x = s
    · rw [if_pos e] at hix
      have HIX := Lib.hid hix
      have he : (x == s) = true := by simpa using e
      have HBE := Lib.hid hbel
      clear hix e hx hget hSb hbel
      go_wp2
      go_ret
      exact ⟨ret_int HIX.out, HBE.out⟩
    · rw [if_neg e] at hix
      have HIX := Lib.hid hix
      have he : (x == s) = false := by simpa using e
      have HBE := Lib.hid hbel
      clear hix e hx hget hSb hbel
      go_wp2
      go_roundg (l.length - k)
      case measure => omega
      case rel => exact ⟨k + 1, by omega, by omega, by go_num, HIX.out, HBE.out⟩

def InR (W : World) (ins : List Sg) (g : Nat) (v3 v8 : Value) (wr : World) : Prop :=
  ∃ k : Nat, k ≤ ins.length ∧ ins.length - k < g ∧ v8 = .int .i64 (k : Int) ∧ wr.ownsRow W.heap.size 9 1 v3 k ((ins.take k).map fun s => nmV s.nm) ∧ Below W.heap.size W wr
def RetIn (ins : List Sg) (w : World) (e : Ending) (w' : World) : Prop :=
  ∃ A c, e = .returned (.slice A ins.length c) ∧ ins.length ≤ c ∧ c ≤ maxLen ∧ w'.ownsRow w.heap.size 9 1 (.slice A ins.length c) ins.length (ins.map fun s => nmV s.nm) ∧ Below w.heap.size w w'
set_option maxRecDepth 100000 in
set_option maxHeartbeats 4000000 in
theorem rinputs_any (A : Option Addr) (c : Nat) (ins : List Sg) (w : World) (hm : ins.length ≤ 100000) (hr : Rw SgC 2 w (Old w) A ins.length ins) :
    Calls Tryz.prog 53 #[.slice A ins.length c] w (RetIn ins w) := by
  have HR := Lib.hid hr
  obtain ⟨ti, hti, hz0, hz1, hz2⟩ := info_parts infoNm
  clear hr
  go_enter Tryz.func53, Tryz.ntmps53
  go_wp2
  go_loopg [3, 8] (ins.length + 1) (fun g v3 v8 wr => InR w ins g v3 v8 wr)
  case atStart => exact ⟨0, Nat.zero_le _, by omega, rfl, World.ownsRow_nil _ _ _ _, Below.refl _ _⟩
  case round =>
    obtain ⟨k, hk, hgk, rfl, hown, hbel⟩ := hrel
    obtain ⟨A3, c3, rfl, hc3, hm3⟩ := own_shape hown
    by_cases hlt : k < ins.length
    case neg =>
      obtain rfl : k = ins.length := by omega
      rw [List.take_length] at hown
      have HRES : Hid (RetIn ins w (.returned (.slice A3 ins.length c3)) wr) := Lib.hid ⟨A3, c3, rfl, hc3, hm3, hown, hbel⟩
      clear hown hbel
      go_wp2
      go_ret
      exact HRES.out
    obtain ⟨b, o, x, hA, hSb, hx, hxl, -, y0, y1⟩ := sgAt (HR.out.mono SgC.mono (fun _ q => q) (keepOn_below hbel fun _ q => q)) hlt
    subst hA
    have hbk : b < wr.heap.size := Nat.lt_of_lt_of_le hSb hbel.size
    obtain ⟨nm, kd⟩ := x
    dsimp only at hxl y0 y1
    have HTK := Lib.hid (show (ins.take (k + 1)).map (fun s => nmV s.nm) = (ins.take k).map (fun s => nmV s.nm) ++ [.string ⟨nm.toArray⟩] by rw [List.take_add_one, hx]; simp)
    have HOW := Lib.hid ((hown.alloc (Obj.cells #[.string ⟨nm.toArray⟩, .int .i64 kd] 40)).alloc (Obj.cells #[.string ⟨nm.toArray⟩] 9))
    have hq := hbel.alloc hbel.size (Obj.cells #[.string ⟨nm.toArray⟩, .int .i64 kd] 40)
    have HBQ := Lib.hid (hq.alloc hq.size (Obj.cells #[.string ⟨nm.toArray⟩] 9))
    have hsr := src_box (wr.alloc (Obj.cells #[.string ⟨nm.toArray⟩, .int .i64 kd] 40)) [.string ⟨nm.toArray⟩] 9 1 1 rfl
    rw [World.size_alloc] at hsr
    have HSR := Lib.hid hsr
    have hsz := hbel.size
    clear hown hbel hx hq hsr hSb
    go_upto_region 5 with fail
    go_wp2_with (at_builtin; refine wpList_append_src (o := ⟨some 16, _, _, _, _, _⟩) (w := (wr.alloc (Obj.cells #[.string ⟨nm.toArray⟩, .int .i64 kd] 40)).alloc (Obj.cells #[.string ⟨nm.toArray⟩] 9)) _ _ 31 rfl rfl Tryz.underlying31 hti hz0 hz1 hz2 rfl (by decide) rfl HOW.out HBQ.out rfl HSR.out (by intro u hu; rw [List.mem_singleton.1 hu]; rfl) (by unfold maxLen; omega) (by omega) (by simp only [World.size_alloc]; omega) ?_; intro v7 w7 hown7 hb7 hs7; have HO7 := Lib.hid hown7; have HB7 := Lib.hid hb7; clear hown7 hb7)
    go_roundg (ins.length - k)
    case measure => omega
    case rel => exact ⟨k + 1, by omega, by omega, by go_num, by rw [HTK.out]; exact HO7.out, HB7.out⟩

set_option maxRecDepth 100000 in
set_option maxHeartbeats 8000000 in
theorem rfits_any {w : World} {p : Pg} {l : Pl} (h : PgI w (Old w) p l) (op a : Int) (used stored : Nat) (ho : 0 ≤ opnP op) :
    Calls Tryz.prog 62 #[pgV p l, .agg #[.int .i64 op, .int .i64 a], .int .i64 used, .int .i64 stored] w (RetB (argP p stored used ⟨op, a⟩) w) := by
  have hb1 := box_below w (Obj.cells (pgC p l) 35)
  have HB := Lib.hid (below_two hb1 (box_below (w.alloc (Obj.cells (pgC p l) 35)) (Obj.cells #[.int .i64 op, .int .i64 a] 76)) hb1.size)
  have HR3 := Lib.hid h.r3
  have l3 := h.h3
  have m3 := h.m3
  unfold maxLen at m3
  obtain ⟨ins, rls, cells, code⟩ := p
  obtain ⟨B1, k1, B2, k2, B3, k3, B4, k4⟩ := l
  dsimp only at *
  obtain ⟨r, hr⟩ : ∃ r, argP ⟨ins, rls, cells, code⟩ stored used ⟨op, a⟩ = r := ⟨_, rfl⟩
  rw [hr]
  have HRR := Lib.hid hr
  clear hr h hb1
  by_cases e1 : op = 1
  · subst e1
    have hr := HRR.out
    unfold argP at hr
    rw [if_pos rfl] at hr
    by_cases ha0 : a = 0
    · subst ha0
      have HE := Lib.hid (show true = r by rw [← hr]; simp)
      clear hr
      go_enter Tryz.func62, Tryz.ntmps62
      go_wp2
      go_ret
      exact ⟨ret_bool HE.out, HB.out⟩
    · have hd0 : (a == 0) = false := by simpa using ha0
      by_cases ha1 : a = 1
      · subst ha1
        have HE := Lib.hid (show true = r by rw [← hr]; simp)
        clear hr
        go_enter Tryz.func62, Tryz.ntmps62
        go_wp2
        go_ret
        exact ⟨ret_bool HE.out, HB.out⟩
      · have hd1 : (a == 1) = false := by simpa using ha1
        have HE := Lib.hid (show false = r by rw [← hr]; simp [ha1, ha0])
        clear hr
        go_enter Tryz.func62, Tryz.ntmps62
        go_wp2
        go_ret
        exact ⟨ret_bool HE.out, HB.out⟩
  by_cases e2 : op = 2
  · subst e2
    have hr := HRR.out
    unfold argP at hr
    rw [if_neg (show ¬ ((2 : Int) = 1) by decide), if_pos rfl] at hr
    rcases (show a < 0 ∨ (0 ≤ a ∧ a ≤ 32767) ∨ (0 ≤ a ∧ 32767 < a) by omega) with ha | ⟨ha, ha'⟩ | ⟨ha, ha'⟩
    · have hd : decide (0 ≤ a) = false := by simp; omega
      have HE := Lib.hid (show false = r by rw [← hr]; simp; omega)
      clear hr
      go_enter Tryz.func62, Tryz.ntmps62
      go_wp2
      go_ret
      exact ⟨ret_bool HE.out, HB.out⟩
    · have HE := Lib.hid (show true = r by rw [← hr]; simp; omega)
      clear hr
      go_enter Tryz.func62, Tryz.ntmps62
      go_wp2
      go_ret
      exact ⟨ret_bool HE.out, HB.out⟩
    · have hd : decide (a ≤ 32767) = false := by simp; omega
      have HE := Lib.hid (show false = r by rw [← hr]; simp; omega)
      clear hr
      go_enter Tryz.func62, Tryz.ntmps62
      go_wp2
      go_ret
      exact ⟨ret_bool HE.out, HB.out⟩
  by_cases e30 : op = 30
  · subst e30
    have hr := HRR.out
    unfold argP at hr
    rw [if_neg (show ¬ ((30 : Int) = 1) by decide), if_neg (show ¬ ((30 : Int) = 2) by decide), if_pos rfl] at hr
    rcases (show a < 0 ∨ (0 ≤ a ∧ a < ins.length) ∨ (0 ≤ a ∧ ¬ a < ins.length) by omega) with ha | ⟨ha, ha'⟩ | ⟨ha, ha'⟩
    · have hd : decide (0 ≤ a) = false := by simp; omega
      have HE := Lib.hid (show false = r by rw [← hr]; simp; omega)
      clear hr
      go_enter Tryz.func62, Tryz.ntmps62
      go_wp2
      go_ret
      exact ⟨ret_bool HE.out, HB.out⟩
    · have HE := Lib.hid (show true = r by rw [← hr]; simp; omega)
      clear hr
      go_enter Tryz.func62, Tryz.ntmps62
      go_wp2
      go_ret
      exact ⟨ret_bool HE.out, HB.out⟩
    · have hd : decide (a < (ins.length : Int)) = false := by simp; omega
      have HE := Lib.hid (show false = r by rw [← hr]; simp; omega)
      clear hr
      go_enter Tryz.func62, Tryz.ntmps62
      go_wp2
      go_ret
      exact ⟨ret_bool HE.out, HB.out⟩
  by_cases e31 : op = 31
  · subst e31
    have hr := HRR.out
    unfold argP at hr
    rw [if_neg (show ¬ ((31 : Int) = 1) by decide), if_neg (show ¬ ((31 : Int) = 2) by decide), if_neg (show ¬ ((31 : Int) = 30) by decide), if_pos rfl] at hr
    rcases (show a < 0 ∨ (0 ≤ a ∧ a < rls.length) ∨ (0 ≤ a ∧ ¬ a < rls.length) by omega) with ha | ⟨ha, ha'⟩ | ⟨ha, ha'⟩
    · have hd : decide (0 ≤ a) = false := by simp; omega
      have HE := Lib.hid (show false = r by rw [← hr]; simp; omega)
      clear hr
      go_enter Tryz.func62, Tryz.ntmps62
      go_wp2
      go_ret
      exact ⟨ret_bool HE.out, HB.out⟩
    · have HE := Lib.hid (show true = r by rw [← hr]; simp; omega)
      clear hr
      go_enter Tryz.func62, Tryz.ntmps62
      go_wp2
      go_ret
      exact ⟨ret_bool HE.out, HB.out⟩
    · have hd : decide (a < (rls.length : Int)) = false := by simp; omega
      have HE := Lib.hid (show false = r by rw [← hr]; simp; omega)
      clear hr
      go_enter Tryz.func62, Tryz.ntmps62
      go_wp2
      go_ret
      exact ⟨ret_bool HE.out, HB.out⟩
  by_cases e32 : op = 32
  · subst e32
    have hr := HRR.out
    unfold argP at hr
    rw [if_neg (show ¬ ((32 : Int) = 1) by decide), if_neg (show ¬ ((32 : Int) = 2) by decide), if_neg (show ¬ ((32 : Int) = 30) by decide), if_neg (show ¬ ((32 : Int) = 31) by decide), if_pos rfl] at hr
    by_cases hs : a = stored
    · subst hs
      have hse : ((stored : Int) == (stored : Int)) = true := by simp
      by_cases ha' : stored < rls.length
      · have HE := Lib.hid (show true = r by rw [← hr]; simp; omega)
        have hd : (stored : Int) < (rls.length : Int) := by omega
        clear hr
        go_enter Tryz.func62, Tryz.ntmps62
        go_wp2
        go_ret
        exact ⟨ret_bool HE.out, HB.out⟩
      · have HE := Lib.hid (show false = r by rw [← hr]; simp; omega)
        have hd : ¬ (stored : Int) < (rls.length : Int) := by omega
        clear hr
        go_enter Tryz.func62, Tryz.ntmps62
        go_wp2
        go_ret
        exact ⟨ret_bool HE.out, HB.out⟩
    · have hse : (a == (stored : Int)) = false := by simpa using hs
      have HE := Lib.hid (show false = r by rw [← hr]; simp; omega)
      clear hr
      go_enter Tryz.func62, Tryz.ntmps62
      go_wp2
      go_ret
      exact ⟨ret_bool HE.out, HB.out⟩
  have hop : 4 ≤ op ∧ op ≤ 22 := by
    have : ¬ (opnP op = -1) := by omega
    unfold opnP at this
    by_cases hb : 5 ≤ op ∧ op ≤ 22
    · omega
    · rw [if_neg (by omega)] at this
      split at this
      · omega
      · split at this
        · omega
        · exact absurd rfl this
  obtain ⟨hop1, hop2⟩ := hop
  have HK := Lib.hid (fun W => rhas_any op W)
  have hr := HRR.out
  unfold argP at hr
  dsimp only at hr
  rw [if_neg e1, if_neg e2, if_neg e30, if_neg e31, if_neg e32] at hr
  clear e1 e2 e30 e31 e32
  cases hkb : keptB op with
  | false =>
    rw [hkb] at HK hr
    rw [if_pos rfl] at hr
    clear hkb
    by_cases ha0 : a = 0
    · subst ha0
      have HE := Lib.hid (show true = r by rw [← hr]; simp)
      clear hr
      go_enter Tryz.func62, Tryz.ntmps62
      go_wp2_with fail
      refine (HK.out _).mono ?_
      rintro e w5 ⟨rfl, rfl⟩
      go_wp2
      go_ret
      exact ⟨ret_bool HE.out, HB.out⟩
    · have hd0 : (a == 0) = false := by simpa using ha0
      have HE := Lib.hid (show false = r by rw [← hr]; simp [ha0])
      clear hr
      go_enter Tryz.func62, Tryz.ntmps62
      go_wp2_with fail
      refine (HK.out _).mono ?_
      rintro e w5 ⟨rfl, rfl⟩
      go_wp2
      go_ret
      exact ⟨ret_bool HE.out, HB.out⟩
  | true =>
    rw [hkb] at HK hr
    rw [if_neg (by decide)] at hr
    have hk17 : 17 ≤ op := by unfold keptB at hkb; simp at hkb; omega
    clear hkb
    by_cases hs : a = used
    case neg =>
      have hse : (a != (used : Int)) = true := by simpa using hs
      have HE := Lib.hid (show false = r by rw [← hr]; simp [hs])
      clear hr
      go_enter Tryz.func62, Tryz.ntmps62
      go_wp2_with fail
      refine (HK.out _).mono ?_
      rintro e w5 ⟨rfl, rfl⟩
      go_upto_region 12 with fail
      go_region
      go_wp2
      go_ret
      exact ⟨ret_bool HE.out, below_drew HB.out⟩
    subst hs
    have hse : ((used : Int) != (used : Int)) = false := by simp
    by_cases hu : used < cells.length
    case neg =>
      have hd : ¬ (used : Int) < (cells.length : Int) := by omega
      have hd2 : (cells.length : Int) ≤ (used : Int) := by omega
      have hd3 : decide (cells.length ≤ used) = true := by simp; omega
      have HE := Lib.hid (show false = r by rw [← hr, List.getElem?_eq_none (by omega)]; simp)
      clear hr
      go_enter Tryz.func62, Tryz.ntmps62
      go_wp2_with fail
      refine (HK.out _).mono ?_
      rintro e w5 ⟨rfl, rfl⟩
      go_upto_region 12 with fail
      go_region
      go_wp2
      go_ret
      exact ⟨ret_bool HE.out, below_drew HB.out⟩
    obtain ⟨b, o, cl, hA, hSb, hx, y0, y1⟩ := ceAt HR3.out hu
    subst hA
    rw [hx] at hr
    obtain ⟨lo, ln⟩ := cl
    have hr' : cellB ⟨op, (used : Int)⟩ ⟨lo, ln⟩ = r := by rw [← hr]; simp
    unfold cellB at hr'
    dsimp only at y0 y1 hr'
    clear hr hx
    have hd : decide ((cells.length : Int) ≤ (used : Int)) = false := by simp; omega
    have hd3 : decide (cells.length ≤ used) = false := by simp; omega
    have hbw : b < w.heap.size := hSb
    obtain ⟨M, hM⟩ : ∃ M : Int, (if op = 19 ∨ op = 20 then 500 else 0) = M := ⟨_, rfl⟩
    rw [hM] at hr'
    have HM := Lib.hid hM
    have HRR' := Lib.hid hr'
    clear hM hr' HRR hSb
    have hcs : (lo ≠ op) ∨ (lo = op ∧ ln < 0) ∨ (lo = op ∧ 0 ≤ ln ∧ ln ≤ M) ∨ (lo = op ∧ 0 ≤ ln ∧ M < ln) := by omega
    have hts : op = 19 ∨ op = 20 ∨ (op ≠ 19 ∧ op ≠ 20) := by omega
    rcases hts with rfl | rfl | ⟨t19, t20⟩
    case inl =>
      obtain rfl : 500 = M := HM.out
      rcases hcs with hl | ⟨rfl, hl⟩ | ⟨rfl, hl, hl'⟩ | ⟨rfl, hl, hl'⟩
      · have HE := Lib.hid (show false = r by rw [← HRR'.out, eq_comm, decide_eq_false_iff_not]; omega)
        have hle : (lo != 19) = true := by simpa using hl
        go_enter Tryz.func62, Tryz.ntmps62
        go_wp2_with fail
        refine (HK.out _).mono ?_
        rintro e w5 ⟨rfl, rfl⟩
        go_upto_region 12 with fail
        go_region
        go_wp2
        go_ret
        exact ⟨ret_bool HE.out, below_drew HB.out⟩
      · have HE := Lib.hid (show false = r by rw [← HRR'.out, eq_comm, decide_eq_false_iff_not]; omega)
        have hle : decide (0 ≤ ln) = false := by simp; omega
        go_enter Tryz.func62, Tryz.ntmps62
        go_wp2_with fail
        refine (HK.out _).mono ?_
        rintro e w5 ⟨rfl, rfl⟩
        go_upto_region 12 with fail
        go_region
        go_wp2
        go_ret
        exact ⟨ret_bool HE.out, below_drew HB.out⟩
      · have HE := Lib.hid (show true = r by rw [← HRR'.out, eq_comm, decide_eq_true_eq]; omega)
        go_enter Tryz.func62, Tryz.ntmps62
        go_wp2_with fail
        refine (HK.out _).mono ?_
        rintro e w5 ⟨rfl, rfl⟩
        go_upto_region 12 with fail
        go_region
        go_wp2
        go_ret
        exact ⟨ret_bool HE.out, below_drew HB.out⟩
      · have HE := Lib.hid (show false = r by rw [← HRR'.out, eq_comm, decide_eq_false_iff_not]; omega)
        have hle : decide (ln ≤ 500) = false := by simp; omega
        go_enter Tryz.func62, Tryz.ntmps62
        go_wp2_with fail
        refine (HK.out _).mono ?_
        rintro e w5 ⟨rfl, rfl⟩
        go_upto_region 12 with fail
        go_region
        go_wp2
        go_ret
        exact ⟨ret_bool HE.out, below_drew HB.out⟩
    case inr.inl =>
      obtain rfl : 500 = M := HM.out
      rcases hcs with hl | ⟨rfl, hl⟩ | ⟨rfl, hl, hl'⟩ | ⟨rfl, hl, hl'⟩
      · have HE := Lib.hid (show false = r by rw [← HRR'.out, eq_comm, decide_eq_false_iff_not]; omega)
        have hle : (lo != 20) = true := by simpa using hl
        go_enter Tryz.func62, Tryz.ntmps62
        go_wp2_with fail
        refine (HK.out _).mono ?_
        rintro e w5 ⟨rfl, rfl⟩
        go_upto_region 12 with fail
        go_region
        go_wp2
        go_ret
        exact ⟨ret_bool HE.out, below_drew HB.out⟩
      · have HE := Lib.hid (show false = r by rw [← HRR'.out, eq_comm, decide_eq_false_iff_not]; omega)
        have hle : decide (0 ≤ ln) = false := by simp; omega
        go_enter Tryz.func62, Tryz.ntmps62
        go_wp2_with fail
        refine (HK.out _).mono ?_
        rintro e w5 ⟨rfl, rfl⟩
        go_upto_region 12 with fail
        go_region
        go_wp2
        go_ret
        exact ⟨ret_bool HE.out, below_drew HB.out⟩
      · have HE := Lib.hid (show true = r by rw [← HRR'.out, eq_comm, decide_eq_true_eq]; omega)
        go_enter Tryz.func62, Tryz.ntmps62
        go_wp2_with fail
        refine (HK.out _).mono ?_
        rintro e w5 ⟨rfl, rfl⟩
        go_upto_region 12 with fail
        go_region
        go_wp2
        go_ret
        exact ⟨ret_bool HE.out, below_drew HB.out⟩
      · have HE := Lib.hid (show false = r by rw [← HRR'.out, eq_comm, decide_eq_false_iff_not]; omega)
        have hle : decide (ln ≤ 500) = false := by simp; omega
        go_enter Tryz.func62, Tryz.ntmps62
        go_wp2_with fail
        refine (HK.out _).mono ?_
        rintro e w5 ⟨rfl, rfl⟩
        go_upto_region 12 with fail
        go_region
        go_wp2
        go_ret
        exact ⟨ret_bool HE.out, below_drew HB.out⟩
    case inr.inr =>
      obtain rfl : 0 = M := by rw [← HM.out, if_neg (by omega)]
      have u19 : (op == 19) = false := by simpa using t19
      have u20 : (op == 20) = false := by simpa using t20
      rcases hcs with hl | ⟨rfl, hl⟩ | ⟨rfl, hl, hl'⟩ | ⟨rfl, hl, hl'⟩
      · have HE := Lib.hid (show false = r by rw [← HRR'.out, eq_comm, decide_eq_false_iff_not]; omega)
        have hle : (lo != op) = true := by simpa using hl
        go_enter Tryz.func62, Tryz.ntmps62
        go_wp2_with fail
        refine (HK.out _).mono ?_
        rintro e w5 ⟨rfl, rfl⟩
        go_upto_region 12 with fail
        go_region
        go_wp2
        go_ret
        exact ⟨ret_bool HE.out, below_drew HB.out⟩
      · have HE := Lib.hid (show false = r by rw [← HRR'.out, eq_comm, decide_eq_false_iff_not]; omega)
        have hle : (ln == 0) = false := by simp; omega
        have hlo : (lo != lo) = false := by simp
        go_enter Tryz.func62, Tryz.ntmps62
        go_wp2_with fail
        refine (HK.out _).mono ?_
        rintro e w5 ⟨rfl, rfl⟩
        go_upto_region 12 with fail
        go_region
        go_wp2
        go_ret
        exact ⟨ret_bool HE.out, below_drew HB.out⟩
      · obtain rfl : ln = 0 := by omega
        have HE := Lib.hid (show true = r by rw [← HRR'.out, eq_comm, decide_eq_true_eq]; omega)
        have hlo : (lo != lo) = false := by simp
        go_enter Tryz.func62, Tryz.ntmps62
        go_wp2_with fail
        refine (HK.out _).mono ?_
        rintro e w5 ⟨rfl, rfl⟩
        go_upto_region 12 with fail
        go_region
        go_wp2
        go_ret
        exact ⟨ret_bool HE.out, below_drew HB.out⟩
      · have HE := Lib.hid (show false = r by rw [← HRR'.out, eq_comm, decide_eq_false_iff_not]; omega)
        have hle : (ln == 0) = false := by simp; omega
        have hlo : (lo != lo) = false := by simp
        go_enter Tryz.func62, Tryz.ntmps62
        go_wp2_with fail
        refine (HK.out _).mono ?_
        rintro e w5 ⟨rfl, rfl⟩
        go_upto_region 12 with fail
        go_region
        go_wp2
        go_ret
        exact ⟨ret_bool HE.out, below_drew HB.out⟩
end Go.Proofs.YtcikenlflcofbaaGreatDoor
