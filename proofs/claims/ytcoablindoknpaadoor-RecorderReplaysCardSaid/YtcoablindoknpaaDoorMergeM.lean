/-
  SortStableFunc over events, and Merge of the program.
-/
import Derived.Test.YtcoablindoknpaaDoorStable
namespace Go.Proofs.YtcoablindoknpaaDoor
open Go.RowKit

theorem srow_of_own {w W : World} {g c n : Nat} {es : List Ev} {base : Nat} (h : W.ownsRow base 26 5 (.slice (some ⟨g, 0, Option.none⟩) n c) n (evCells es)) (hn : es.length = n) (_hp : 0 < n) (hb : Below base w W) : SSt w base g es W := by
  have hr := rws_of_ev h hn
  rcases h.2 with ⟨he, -⟩ | ⟨g', cap, cur, he, hbg, hcur, -⟩
  · cases he
  · injection he with he1 he2 he3
    injection he1 with he1
    injection he1 with he1
    subst he1
    have hlt : g < W.heap.size := (Array.getElem?_eq_some_iff.1 hcur).1
    refine ⟨⟨hlt, fun k e hk => ?_, fun j => by simp [World.frozen?, hcur]⟩, hb, hbg⟩
    have hkl : k < n := by rw [← hn]; exact (List.getElem?_eq_some_iff.1 hk).1
    obtain ⟨b', o', x, hA, -, hx, hE⟩ := evAt hr hkl
    injection hA with hA
    injection hA with hA1 hA2
    subst hA1 hA2
    rw [hk] at hx
    cases hx
    rw [Nat.zero_add] at hE
    exact hE
theorem rws_of_srow {W : World} {g : Nat} {es : List Ev} (h : SRow W g es) : Rws EvC 5 W W.heap.size (some ⟨g, 0, Option.none⟩) es.length es := by
  refine ⟨rfl, fun _ => ⟨g, 0, rfl, h.lt, fun k x hx => ⟨x.cells, rfl, rfl, fun j v hv => ?_⟩⟩⟩
  have hE := h.ev k x hx
  rw [Nat.zero_add]
  have hj : j < 5 := (List.getElem?_eq_some_iff.1 hv).1
  match j, hj, hv with
  | 0, _, hv => cases hv; exact hE.c0
  | 1, _, hv => cases hv; exact hE.c1
  | 2, _, hv => cases hv; exact hE.c2
  | 3, _, hv => cases hv; exact hE.c3
  | 4, _, hv => cases hv; exact hE.c4

def RetSame (w : World) (e : Ending) (w' : World) : Prop := (∃ v, e = .returned v) ∧ w = w'
theorem ins_nil (A : Option Addr) (c : Nat) (W : World) : Calls Tryd.prog 62 #[.slice A 0 c, .int .i64 0, .int .i64 0, cmpV] W (RetSame W) := by
  unfold cmpV
  go_enter Tryd.func62, Tryd.ntmps62
  go_wp2
  go_loopw [8] (fun i wr => i = .int .i64 1 ∧ wr = W) (fun _ _ => 0)
  case atStart => exact ⟨rfl, rfl⟩
  case round =>
    obtain ⟨rfl, rfl⟩ := hrel
    go_wp2
    go_end0
    exact ⟨⟨_, rfl⟩, rfl⟩
set_option maxRecDepth 100000 in
theorem stable_nil (A : Option Addr) (c : Nat) (W : World) : Calls Tryd.prog 57 #[.slice A 0 c, .int .i64 0, cmpV] W (RetSame W) := by
  have C := ins_nil A c W
  unfold cmpV at *
  have HC := Lib.hid C
  clear C
  go_enter Tryd.func57, Tryd.ntmps57
  go_wp2
  go_loopw [7, 8] (fun x y wr => x = .int .i64 0 ∧ y = .int .i64 20 ∧ wr = W) (fun _ _ _ => 0)
  case atStart => exact ⟨rfl, rfl, rfl⟩
  case round =>
    obtain ⟨rfl, rfl, rfl⟩ := hrel
    go_wp2_with fail
    refine HC.out.mono ?_
    rintro e w2 ⟨⟨v, rfl⟩, rfl⟩
    go_wp2
    go_loopw [6] (fun z w2 => z = .int .i64 20 ∧ w2 = wr) (fun _ _ => 0)
    case atStart => exact ⟨rfl, rfl⟩
    case round =>
      clear HC
      obtain ⟨rfl, rfl⟩ := hrel
      go_wp2
      go_end0
      exact ⟨⟨_, rfl⟩, rfl⟩
theorem sort_nil (A : Option Addr) (c : Nat) (W : World) : Calls Tryd.prog 47 #[.slice A 0 c, cmpV] W (RetSame W) := by
  have C := stable_nil A c W
  unfold cmpV at *
  have HC := Lib.hid C
  clear C
  go_enter Tryd.func47, Tryd.ntmps47
  go_wp2_with fail
  refine HC.out.mono ?_
  rintro e w2 ⟨⟨v, rfl⟩, rfl⟩
  go_wp2
  go_end0
  exact ⟨⟨_, rfl⟩, rfl⟩
theorem sort_any (w : World) (B b cp : Nat) (es : List Ev) (hes : es.length ≤ 100000) (W : World) (hS : SSt w B b es W) :
    Calls Tryd.prog 47 #[.slice (some ⟨b, 0, Option.none⟩) es.length cp, cmpV] W (RetNone w B b (stE es)) := by
  have C := stable_any w B b cp es hes W hS
  unfold cmpV at *
  have HC := Lib.hid C
  clear C
  go_enter Tryd.func47, Tryd.ntmps47
  go_wp2_with fail
  refine HC.out.mono ?_
  rintro e w2 ⟨⟨v, rfl⟩, es', hg, hs, hS'⟩
  have he := seg_done hg hs
  subst he
  go_wp2
  go_end0
  exact ⟨⟨_, rfl⟩, hS'⟩

theorem own_new {w : World} {base : Nat} {e : TypeId} {size n m c : Nat} {A : Option Addr} {xs : List Value} (h : w.ownsRow base e size (.slice A m c) n xs) : ∀ b o, A = some ⟨b, o, Option.none⟩ → base ≤ b := by
  rintro b o rfl
  rcases h.2 with ⟨he, -⟩ | ⟨g, cap, cur, he, hg, -⟩
  · cases he
  · injection he with h1
    injection h1 with h1
    injection h1 with h1
    subst h1
    exact hg
/-- A list of events is returned; old memory is as it was. -/
def RetEvs (es : List Ev) (w : World) (e : Ending) (w' : World) : Prop := ∃ A c, e = .returned (.slice A es.length c) ∧ es.length ≤ c ∧ c ≤ maxLen ∧ (A = Option.none → c = 0) ∧ (∀ b o, A = some ⟨b, o, Option.none⟩ → w.heap.size ≤ b) ∧ Rws EvC 5 w' w'.heap.size A es.length es ∧ Below w.heap.size w w'
theorem stE_len (es : List Ev) : (stE es).length = es.length := by unfold stE; rw [insAll_len]; simp

set_option maxRecDepth 100000 in
theorem merge_any (A : Option Addr) (c B : Nat) (xss : List (List Ev)) (w : World) (hB : B ≤ w.heap.size) (hr : Rws (SliceOf EvC 5) 1 w B A xss.length xss) (hn : xss.length ≤ 1000) (hlen : xss.flatten.length ≤ 1000) :
    Calls Tryd.prog 31 #[.slice A xss.length c] w (RetEvs (stE xss.flatten) w) := by
  have C := concat_any A c B xss w hB hr hn hlen
  have hl := stE_len xss.flatten
  generalize xss.flatten = es at *
  have HC := Lib.hid C
  have HL := Lib.hid hl
  clear C hl hr
  go_enter Tryd.func31, Tryd.ntmps31
  go_wp2_with fail
  refine HC.out.mono ?_
  rintro e w1 ⟨A1, c1, rfl, hc1, hm1, hown, hb1⟩
  have hnil := own_nil0 hown
  have hnew := own_new hown
  by_cases h0 : es.length = 0
  · obtain rfl : es = [] := List.eq_nil_of_length_eq_zero h0
    have CN := sort_nil A1 c1 w1
    unfold cmpV at CN
    have HCN := Lib.hid CN
    have HNIL := Lib.hid hnil
    have HNEW := Lib.hid hnew
    clear CN hown h0 hnil hnew
    dsimp only [List.length_nil] at hc1 ⊢
    go_wp2_with fail
    refine HCN.out.mono ?_
    rintro e w2 ⟨⟨v, rfl⟩, rfl⟩
    go_wp2
    go_ret
    exact ⟨A1, c1, rfl, hc1, hm1, HNIL.out, HNEW.out, rws_none _ _ _ _ _, hb1⟩
  · obtain ⟨g, cap, hv, _, _⟩ := hown.form (by omega)
    obtain rfl : A1 = some ⟨g, 0, Option.none⟩ := by injection hv
    have CS := sort_any w w.heap.size g c1 es (by omega) w1 (srow_of_own hown rfl (by omega) hb1)
    unfold cmpV at CS
    have HCS := Lib.hid CS
    clear CS hown hnil hv hnew
    go_wp2_with fail
    refine HCS.out.mono ?_
    rintro e w2 ⟨⟨v, rfl⟩, hS2⟩
    have hrr := rws_of_srow hS2.row
    go_wp2
    go_ret
    refine ⟨some ⟨g, 0, Option.none⟩, c1, by rw [HL.out]; rfl, by rw [HL.out]; exact hc1, hm1, (fun h => by cases h), (fun b o h => by injection h with h; injection h with h; subst h; exact hS2.le), ?_, hS2.bel⟩
    exact hrr
end Go.Proofs.YtcoablindoknpaaDoor
