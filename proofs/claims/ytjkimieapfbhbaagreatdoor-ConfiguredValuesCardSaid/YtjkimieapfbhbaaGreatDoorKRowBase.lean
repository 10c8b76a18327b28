/-
 The law's second argument, opened: a list of uint64s; and the library's table of powers of ten, out of what the row says of it.
-/
import Derived.Test.YtjkimieapfbhbaaGreatDoorOh
import Derived.Test.YtjkimieapfbhbaaGreatDoorKOpC
import Derived.LaidSub
import Derived.Test.YtjkimieapfbhbaaGreatDoorKTexts
import Derived.Test.YtjkimieapfbhbaaGreatDoorCards
import Derived.Test.YtjkimieapfbhbaaGreatDoorTie
import Derived.OpenShut
import Derived.Deep.DeepHandedRow
import Derived.Lib.LaidTab
namespace Go.Proofs.YtjkimieapfbhbaaGreatDoor
open Go.RowKit Go.Deep
theorem zmC:(Tryz.prog.globals[0]?).map (·.type)=some 293:=by kernel_rfl
theorem zh6 : Tryz.prog.cellsOf 46 = 1:=by kernel_rfl
theorem zkX : Tryz.prog.cellsOf 293 = 20:=by kernel_rfl
def zj0 (x:String × DataW Unit):Bool:=x.1 == "internal/strconv.uint64pow10"
theorem tab_of {W:World} {l:List (String × DataW Unit)} (h:laidMetH Tryz.prog l W) (hl:l.filter zj0=[("internal/strconv.uint64pow10",Lib.tabData .u64 Lib.pow10Tab)]):Tab W:=by
 have h1:=h.filter zj0;rw [hl] at h1;have h1:=(laidMetH_iff.1 h1).1;have h2:=Lib.tabIs_of_head zeu zmC Tryz.underlying293 Tryz.underlying46 zh6 zkX h1;refine ⟨h2,?_⟩
 unfold Lib.TabIs World.var? at h2;rw [zeu] at h2;simp only [Option.bind_some] at h2
 rcases Nat.lt_or_ge 0 W.heap.size with hlt | hge
 · exact hlt
 · rw [Array.getElem?_eq_none hge] at h2
   cases h2
section
variable {H : Type} {enc : TypeId × Value → H} {w : World} {base : Nat} {spare : Nat → Bool} {held : Bool}
theorem zkG {fuel:Nat} {cs:List Value} {x:DataW H × List MemPlace} (h:DataW.trod enc Tryz.prog w base spare held fuel 31 cs=some x) :
 ∃ (es:List Int) (A:Option Addr) (c:Nat),cs=[.slice A es.length c]∧es.length≤c∧c≤maxLen∧Rws U64 1 w w.heap.size A es.length es:=
 zaM (R:=U64) (by decide) Tryz.underlying31 zh6 (fun n ds y _ hy=>by
  obtain ⟨b,hb,-,hw⟩:=DataW.trod_int Tryz.underlying46 hy;refine ⟨b,hb,?_⟩
  rw [Lit.wf,Bool.and_eq_true,decide_eq_true_eq,decide_eq_true_eq] at hw;exact ⟨hw.1,hw.2⟩) h
end
end Go.Proofs.YtjkimieapfbhbaaGreatDoor
namespace Go.Proofs.YtjkimieapfbhbaaGreatDoor
open Go.ChangeShapes Go.WideShapes Go.ChangeAt Go.RowKit
section
variable {H : Type} {enc : TypeId × Value → H} {P : Program}
theorem zdI (hl : laidOutB P = true) {W W' : World} (hb : Below W.heap.size W W') (sp : Nat → Bool) : ∀ (ts : List TypeId) (vs : List Value) (ds : List (DataW H)) (ps : List MemPlace), (∀ t ∈ ts, P.readableRec t = true ∧ t < P.types.size) →
 (∀ x ∈ ps, x.block < W.heap.size ∧ sp x.block = true) → DataW.TrodAll enc P W 0 (fun _ => true) true ts vs ds ps → DataW.TrodAll enc P W' 0 sp true ts vs ds ps
 | [], [], [], _, _, _, h => h
 | t :: ts, vs, ds, ps, ht, hp, h => by
   obtain ⟨v, vs', d, ds', p, q, rfl, rfl, rfl, h0, h1⟩ := trodAll_cons h
   obtain ⟨hr, hs⟩ := ht t (by simp)
   refine ⟨p, q, WideElems.Trod_stays hl hr hs h0 (fun x hx => hb.same (hp x (by simp [hx])).1) (fun x hx => (hp x (by simp [hx])).2), zdI hl hb sp ts vs' ds' q (fun t' ht' => ht t' (by simp [ht'])) (fun x hx => hp x (by simp [hx])) h1, rfl⟩
 | [], _ :: _, _, _, _, _, h => by cases h
 | [], [], _ :: _, _, _, _, h => by cases h
theorem zla (hl : laidOutB P = true) {f : Func} {s : ChangeSpec} {apart fresh handsOn again : Bool} {W W' : World} {args : Array Value} {ds gs : List (DataW H)} {before : List MemPlace} {tb : TypeId}
 (hW : DataW.Whole enc P f.params.toList s.vars apart W args.toList ds gs before) (ht : ∀ t ∈ f.params.toList, P.readableRec t = true ∧ t < P.types.size) (hv : s.vars = [])
 (hr : f.resultTypes = #[tb]) (htb : P.underlying tb = some .bool) (h1 : (s.fn H (ds ++ gs)).results = [.lit (.bool true)]) (h2 : (s.fn H (ds ++ gs)).args = ds) (h3 : (s.fn H (ds ++ gs)).vars = []) (hb : Below W.heap.size W W') :
 s.post enc P f apart fresh handsOn again W args (.bool true) W' := by
 have hlt : ∀ p ∈ before, p.block < W.heap.size := fun p hp => hW.lt p hp
 have hW' := hW; obtain ⟨p, q, hA, hV, rfl, _, _⟩ := hW; rw [hv] at hV
 have hq : q = [] := by
  cases gs with
  | nil => exact hV
  | cons _ _ => cases hV
 subst hq; refine zfN (pa := p) (pv := []) hW' (fun b sp hd => ?_) (fun sp hsp => ?_) (fun sp _ => ?_) rfl hb (fun j t r hj hjr => ?_)
 · rw [h1, hr]
   exact trodAll_cons_mk (shut_bool htb _) trodAll_mk0
 · rw [h2]
   exact zdI hl hb sp _ _ _ _ ht (fun x hx => ⟨hlt x (by simp [hx]), hsp x (by simp [hx])⟩) hA
 · rw [h3, hv]; rfl
 · rw [hr] at hj hjr
   have hj0 : j = 0 := by
    have := (Array.getElem?_eq_some_iff.1 hj).1
    simp at this; omega
   subst hj0
   simp [Value.resultList] at hj hjr
   subst hj hjr
   exact okWide_bool_mk htb _
end
theorem own : ownKnob Tryz.prog.godebug = Option.none := by kernel_rfl
theorem zml : laidOutB Tryz.prog = true := by kernel_rfl
def tab32 : Array Value := #[0, 1, 28, 2, 29, 14, 24, 3, 30, 22, 20, 15, 25, 17, 4, 8, 31, 27, 13, 23, 21, 19, 16, 7, 26, 12, 18, 6, 11, 5, 10, 9].map (Value.int .u8)
def tab64 : Array Value := #[0, 1, 56, 2, 57, 49, 28, 3, 61, 58, 42, 50, 38, 29, 17, 4, 62, 47, 59, 36, 45, 43, 51, 22, 53, 39, 33, 30, 24, 18, 12, 5, 63, 55, 48, 27, 60, 41, 37, 16, 46, 35, 44, 21, 52, 32, 23, 11, 54, 26, 40, 15, 34, 20, 31, 10, 25, 14, 19, 9, 13, 8, 7, 6].map (Value.int .u8)
def tabPow : Array Value := #[1, 10, 100, 1000, 10000, 100000, 1000000, 10000000, 100000000, 1000000000, 10000000000, 100000000000, 1000000000000, 10000000000000, 100000000000000, 1000000000000000, 10000000000000000, 100000000000000000, 1000000000000000000, 10000000000000000000].map (Value.int .u64)
def lay (cs : Array Value) : Obj → Obj
 | .cells _ t frozen => .cells cs t frozen
 | o => o
noncomputable def laidWorld (os : Os) : World :=
 { World.holding Tryz.prog os ⟨#[], #[], []⟩ with heap := (((World.holding Tryz.prog os ⟨#[], #[], []⟩).heap.modify 0 (lay tabPow)).modify 1 (lay tab32)).modify 2 (lay tab64) }
end Go.Proofs.YtjkimieapfbhbaaGreatDoor
