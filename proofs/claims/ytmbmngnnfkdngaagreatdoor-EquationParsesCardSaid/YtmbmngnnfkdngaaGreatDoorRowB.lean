/-
  What the rows of chapters 26 and 27 share: the world for the witness, with the library's errors laid; what a call's world holds of the library's variables.
-/
import Derived.Test.YtmbmngnnfkdngaaGreatDoorRowBase
import Derived.Test.YtmbmngnnfkdngaaGreatDoorNumb
import Derived.LaidSub
import Derived.LaidLaws
namespace Go.Proofs.YtmbmngnnfkdngaaGreatDoor
open Go.ChangeShapes Go.WideShapes Go.ChangeAt Go.RowKit

/-- The witness's world: the tables as in laidWorld; two new blocks hold the errors' texts. -/
noncomputable def laidWorldE (os : Os) : World :=
  { laidWorld os with heap := ((((laidWorld os).heap.modify 2 (lay #[.iface 138 (.pointer (some ⟨(laidWorld os).heap.size, 0, Option.none⟩))])).modify 1 (lay #[.iface 138 (.pointer (some ⟨(laidWorld os).heap.size + 1, 0, Option.none⟩))])).push
    (.cells #[.string ⟨#[118, 97, 108, 117, 101, 32, 111, 117, 116, 32, 111, 102, 32, 114, 97, 110, 103, 101]⟩] 140)).push (.cells #[.string ⟨#[105, 110, 118, 97, 108, 105, 100, 32, 115, 121, 110, 116, 97, 120]⟩] 140) }
theorem typePow : (Tryz.prog.globals[3]?).map (·.type) = some 133 := by kernel_rfl
theorem cellsU64 : Tryz.prog.cellsOf 120 = 1 := by kernel_rfl
theorem cellsPow : Tryz.prog.cellsOf 133 = 20 := by kernel_rfl
theorem globalErr : Tryz.prog.globalNamed "strconv.ErrRange" = some 2 := by kernel_rfl
theorem typeErr : (Tryz.prog.globals[2]?).map (·.type) = some 93 := by kernel_rfl
def errD : DataW Unit := .ptr (.agg [.lit (.string [118, 97, 108, 117, 101, 32, 111, 117, 116, 32, 111, 102, 32, 114, 97, 110, 103, 101])])
def keepPow (x : String × DataW Unit) : Bool := x.1 == "internal/strconv.uint64pow10"
def keepErr (x : String × DataW Unit) : Bool := x.1 == "strconv.ErrRange"
theorem shaped_lt {W : World} (h : W.ShapedOpen Tryz.prog) : 5 < W.heap.size := by
  have hg : 5 < Tryz.prog.globals.size := of_decide_eq_true (by kernel_rfl)
  cases h0 : ((begin Tryz.prog (fun _ _ => 0) default).world.heap[5]?).bind Obj.row? with
  | none =>
    exfalso
    have : (((begin Tryz.prog (fun _ _ => 0) default).world.heap[5]?).bind Obj.row?).isSome = true := by kernel_rfl
    rw [h0] at this
    cases this
  | some zt =>
    obtain ⟨zero, t⟩ := zt
    obtain ⟨cs, hc, -⟩ := h.1 5 zero t hg h0
    exact (Array.getElem?_eq_some_iff.1 hc).1
theorem lw_of {W : World} {l : List (String × DataW Unit)} (h : laidMetH Tryz.prog l W) (hl : l.filter keepPow = [("internal/strconv.uint64pow10", Lib.tabData .u64 Lib.pow10Tab)]) (he : l.filter keepErr = [("strconv.ErrRange", .iface "*errors.errorString" errD)]) (hS : W.ShapedOpen Tryz.prog) : Lw W := by
  refine ⟨?_, ?_, shaped_lt hS⟩
  · have h1 := h.filter keepErr
    rw [he] at h1
    have h1 := (laidMetH_iff.1 h1).1
    have hf : ([("strconv.ErrRange", .iface "*errors.errorString" errD)] : List (String × DataW Unit)).filter (fun x => x.2.handleName?.isNone) = [("strconv.ErrRange", .iface "*errors.errorString" errD)] := by kernel_rfl
    rw [hf] at h1
    obtain ⟨ps, ⟨g', t', cs, fuel, p, q, hg', ht', hvar, hd, _, _⟩, _⟩ := h1
    obtain rfl := Option.some.inj (globalErr.symm.trans hg')
    obtain rfl := Option.some.inj (typeErr.symm.trans ht')
    obtain ⟨fuel', u, v, hcs, -, -⟩ := iface_of_trod Tryz.underlying93 hd
    have hcell := World.var?_cell globalErr hvar 0
    rw [hcell]
    refine ⟨.iface u v, ?_, .inr ⟨u, v, rfl⟩⟩
    have : cs[0]? = some (.iface u v) := by
      have h2 := congrArg (fun l : List Value => l[0]?) hcs
      simpa using h2
    exact this
  · have h1 := h.filter keepPow
    rw [hl] at h1
    have h1 := (laidMetH_iff.1 h1).1
    exact Lib.tabIs_of_head globalPow typePow Tryz.underlying133 Tryz.underlying120 cellsU64 cellsPow h1
end Go.Proofs.YtmbmngnnfkdngaaGreatDoor
