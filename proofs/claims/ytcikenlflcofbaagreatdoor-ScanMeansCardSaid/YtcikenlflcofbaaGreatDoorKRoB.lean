/-
  From the form's own reading of an argument to the words of the other texts: structs in structs, expressions, rules.
-/
import Derived.Test.YtcikenlflcofbaaGreatDoorKMnP
import Derived.Test.YtcikenlflcofbaaGreatDoorBase
import Derived.Test.YtcikenlflcofbaaGreatDoorCards
import Derived.Test.YtcikenlflcofbaaGreatDoorTie
import Derived.OpenShut
import Derived.Deep.DeepHandedRow
import Derived.Lib.LaidTab
import Derived.Test.YtcikenlflcofbaaGreatDoorPrN
import Derived.LaidSub
import Derived.LaidLaws
namespace Go.Proofs.YtcikenlflcofbaaGreatDoor
open Go.RowKit Go.Deep
section
variable {H : Type} {enc : TypeId × Value → H} {P : Program} {w : World} {base : Nat} {spare : Nat → Bool} {held : Bool}
end
end Go.Proofs.YtcikenlflcofbaaGreatDoor
namespace Go.Proofs.YtcikenlflcofbaaGreatDoor
open Go.RowKit Go.Deep
section
variable {H : Type} {enc : TypeId × Value → H} {w : World} {base : Nat} {spare : Nat → Bool} {held : Bool}
end
end Go.Proofs.YtcikenlflcofbaaGreatDoor
namespace Go.Proofs.YtcikenlflcofbaaGreatDoor
open Go.RowKit Go.Deep
theorem zeQ : Tryz.prog.cellsOf 46 = 2:=by kernel_rfl
def RlCs (w:World) (_:Nat) (cs:List Value) (r:Rl):Prop:=RlC w (fun _=>True) cs r
section
variable {H : Type} {enc : TypeId × Value → H} {w : World} {base : Nat} {spare : Nat → Bool} {held : Bool}
theorem zlN {fuel:Nat} {cs:List Value} {x:DataW H × List MemPlace} (h:DataW.trod enc Tryz.prog w base spare held fuel 46 cs=some x):∃ z,RlCs w w.heap.size cs z:=by
  obtain ⟨a,b,rfl⟩:=zgh ((zho Tryz.underlying46 h).trans zeQ);obtain ⟨n0,v0,y0,e0,t0⟩:=zcZ Tryz.underlying46 h 0 rfl zeS (by rw [zeQ];decide);obtain ⟨n1,v1,y1,e1,t1⟩:=zcZ Tryz.underlying46 h 1 rfl zeS (by rw [zeQ];decide)
  cases e0;cases e1
  obtain ⟨s,p0,_,w0⟩:=DataW.trod_string Tryz.underlying9 t0;obtain ⟨u,p1,_,w1⟩:=DataW.trod_string Tryz.underlying9 t1
  cases p0;cases p1
  obtain ⟨⟨nm⟩⟩:=s;obtain ⟨⟨tx⟩⟩:=u;exact ⟨⟨nm,tx⟩,rfl,by simpa [ByteArray.size] using w0,by simpa [ByteArray.size] using w1⟩
theorem zkr {fuel:Nat} {cs:List Value} {x:DataW H × List MemPlace} (h:DataW.trod enc Tryz.prog w base spare held fuel 22 cs=some x) :
    ∃ (A:Option Addr) (c:Nat) (es:List Rl),cs=[.slice A es.length c]∧es.length≤c∧c≤maxLen∧Rw RlC 2 w (fun b=>b<w.heap.size) A es.length es:=by
  obtain ⟨es,A,c,rfl,h1,h2,h3⟩:=zbT (R:=RlCs) (by decide) Tryz.underlying22 zeQ (fun n ds y _ hy=>zlN hy) h;exact ⟨A,c,es,rfl,h1,h2,zdj h3 fun _ _ q=>q⟩
end
end Go.Proofs.YtcikenlflcofbaaGreatDoor
namespace Go.Proofs.YtcikenlflcofbaaGreatDoor
open Go.ChangeShapes Go.WideShapes Go.ChangeAt Go.RowKit
section
variable {H : Type} {enc : TypeId × Value → H} {P : Program}
theorem zdl (hl:laidOutB P=true) {W W':World} (hb:Below W.heap.size W W') (sp:Nat→Bool):∀ (ts:List TypeId) (vs:List Value) (ds:List (DataW H)) (ps:List MemPlace),(∀ t∈ts,P.readableRec t=true∧t<P.types.size) →
    (∀ x∈ps,x.block<W.heap.size∧sp x.block=true)→DataW.TrodAll enc P W 0 (fun _=>true) true ts vs ds ps→DataW.TrodAll enc P W' 0 sp true ts vs ds ps
  | [],[],[],_,_,_,h=>h
  | t::ts,vs,ds,ps,ht,hp,h=>by
    obtain ⟨v,vs',d,ds',p,q,rfl,rfl,rfl,h0,h1⟩:=trodAll_cons h;obtain ⟨hr,hs⟩:=ht t (by simp);refine ⟨p,q,WideElems.Trod_stays hl hr hs h0 (fun x hx=>hb.same (hp x (by simp [hx])).1) (fun x hx=>(hp x (by simp [hx])).2),zdl hl hb sp ts vs' ds' q (fun t' ht'=>ht t' (by simp [ht'])) (fun x hx=>hp x (by simp [hx])) h1,rfl⟩
  | [],_::_,_,_,_,_,h=>by cases h
  | [],[],_::_,_,_,_,h=>by cases h
theorem zj2 (hl:laidOutB P=true) {f:Func} {s:ChangeSpec} {apart fresh handsOn again:Bool} {W W':World} {args:Array Value} {ds gs:List (DataW H)} {before:List MemPlace} {tb:TypeId}
    (hW:DataW.Whole enc P f.params.toList s.vars apart W args.toList ds gs before) (ht:∀ t∈f.params.toList,P.readableRec t=true∧t<P.types.size) (hv:s.vars=[])
    (hr:f.resultTypes = #[tb]) (htb:P.underlying tb=some .bool) (h1:(s.fn H (ds++gs)).results=[.lit (.bool true)]) (h2:(s.fn H (ds++gs)).args=ds) (h3:(s.fn H (ds++gs)).vars=[]) (hb:Below W.heap.size W W') :
    s.post enc P f apart fresh handsOn again W args (.bool true) W':=by
  have hlt:∀ p∈before,p.block<W.heap.size:=fun p hp=>hW.lt p hp
  have hW':=hW;obtain ⟨p,q,hA,hV,rfl,_,_⟩:=hW;rw [hv] at hV
  have hq:q=[]:=by
    cases gs with
    | nil=>exact hV
    | cons _ _=>cases hV
  subst hq;refine ze5 (pa:=p) (pv:=[]) hW' (fun b sp hd => ?_) (fun sp hsp => ?_) (fun sp _ => ?_) rfl hb (fun j t r hj hjr => ?_)
  · rw [h1,hr]
    exact trodAll_cons_mk (shut_bool htb _) trodAll_mk0
  · rw [h2]
    exact zdl hl hb sp _ _ _ _ ht (fun x hx=>⟨hlt x (by simp [hx]),hsp x (by simp [hx])⟩) hA
  · rw [h3,hv];rfl
  · rw [hr] at hj hjr
    have hj0:j=0:=by
      have:=(Array.getElem?_eq_some_iff.1 hj).1
      simp at this;omega
    subst hj0
    simp [Value.resultList] at hj hjr
    subst hj hjr
    exact okWide_bool_mk htb _
end
theorem own:ownKnob Tryz.prog.godebug=Option.none:=by kernel_rfl
theorem zls:laidOutB Tryz.prog=true:=by kernel_rfl
def tab32:Array Value := #[0,1,28,2,29,14,24,3,30,22,20,15,25,17,4,8,31,27,13,23,21,19,16,7,26,12,18,6,11,5,10,9].map (Value.int .u8)
def tab64:Array Value := #[0,1,56,2,57,49,28,3,61,58,42,50,38,29,17,4,62,47,59,36,45,43,51,22,53,39,33,30,24,18,12,5,63,55,48,27,60,41,37,16,46,35,44,21,52,32,23,11,54,26,40,15,34,20,31,10,25,14,19,9,13,8,7,6].map (Value.int .u8)
def tabPow:Array Value := #[1,10,100,1000,10000,100000,1000000,10000000,100000000,1000000000,10000000000,100000000000,1000000000000,10000000000000,100000000000000,1000000000000000,10000000000000000,100000000000000000,1000000000000000000,10000000000000000000].map (Value.int .u64)
def lay (cs:Array Value):Obj→Obj
  | .cells _ t frozen => .cells cs t frozen
  | o=>o
noncomputable def laidWorld (os:Os):World:=
  { World.holding Tryz.prog os ⟨#[],#[],[]⟩ with heap:=(((World.holding Tryz.prog os ⟨#[],#[],[]⟩).heap.modify 3 (lay tabPow)).modify 4 (lay tab32)).modify 5 (lay tab64) }
end Go.Proofs.YtcikenlflcofbaaGreatDoor
namespace Go.Proofs.YtcikenlflcofbaaGreatDoor
open Go.ChangeShapes Go.WideShapes Go.ChangeAt Go.RowKit
noncomputable def laidWorldE (os:Os):World:=
  { laidWorld os with heap:=((((laidWorld os).heap.modify 2 (lay #[.iface 181 (.pointer (some ⟨(laidWorld os).heap.size,0,none⟩))])).modify 1 (lay #[.iface 181 (.pointer (some ⟨(laidWorld os).heap.size+1,0,none⟩))])).push
    (.cells #[.string ⟨#[118,97,108,117,101,32,111,117,116,32,111,102,32,114,97,110,103,101]⟩] 183)).push (.cells #[.string ⟨#[105,110,118,97,108,105,100,32,115,121,110,116,97,120]⟩] 183) }
theorem zl1:(Tryz.prog.globals[3]?).map (·.type)=some 190:=by kernel_rfl
theorem zjT : Tryz.prog.cellsOf 171 = 1:=by kernel_rfl
theorem zjS : Tryz.prog.cellsOf 190 = 20:=by kernel_rfl
theorem zfF : Tryz.prog.globalNamed "strconv.ErrRange" = some 2:=by kernel_rfl
theorem zl0:(Tryz.prog.globals[2]?).map (·.type)=some 158:=by kernel_rfl
def errD:DataW Unit := .ptr (.agg [.lit (.string [118,97,108,117,101,32,111,117,116,32,111,102,32,114,97,110,103,101])])
def ziP (x:String × DataW Unit):Bool:=x.1 == "internal/strconv.uint64pow10"
def ziO (x:String × DataW Unit):Bool:=x.1 == "strconv.ErrRange"
theorem zjz {W:World} (h:W.ShapedOpen Tryz.prog):5<W.heap.size:=by
  have hg:5 < Tryz.prog.globals.size:=of_decide_eq_true (by kernel_rfl)
  cases h0:((begin Tryz.prog (fun _ _=>0) default).world.heap[5]?).bind Obj.row? with
  | none =>
    exfalso
    have:(((begin Tryz.prog (fun _ _=>0) default).world.heap[5]?).bind Obj.row?).isSome=true:=by kernel_rfl
    rw [h0] at this
    cases this
  | some zt =>
    obtain ⟨zero,t⟩:=zt;obtain ⟨cs,hc,-⟩:=h.1 5 zero t hg h0;exact (Array.getElem?_eq_some_iff.1 hc).1
theorem lw_of {W:World} {l:List (String × DataW Unit)} (h:laidMetH Tryz.prog l W) (hl:l.filter ziP=[("internal/strconv.uint64pow10",Lib.tabData .u64 Lib.pow10Tab)]) (he:l.filter ziO=[("strconv.ErrRange",.iface "*errors.errorString" errD)]) (hS:W.ShapedOpen Tryz.prog):Lw W:=by
  refine ⟨?_,?_,zjz hS⟩
  · have h1:=h.filter ziO
    rw [he] at h1
    have h1:=(laidMetH_iff.1 h1).1
    have hf:([("strconv.ErrRange",.iface "*errors.errorString" errD)]:List (String × DataW Unit)).filter (fun x=>x.2.handleName?.isNone)=[("strconv.ErrRange",.iface "*errors.errorString" errD)]:=by kernel_rfl
    rw [hf] at h1
    obtain ⟨ps,⟨g',t',cs,fuel,p,q,hg',ht',hvar,hd,_,_⟩,_⟩:=h1
    obtain rfl:=Option.some.inj (zfF.symm.trans hg')
    obtain rfl:=Option.some.inj (zl0.symm.trans ht')
    obtain ⟨fuel',u,v,hcs,-,-⟩:=iface_of_trod Tryz.underlying158 hd
    have hcell:=World.var?_cell zfF hvar 0
    rw [hcell]
    refine ⟨.iface u v,?_,.inr ⟨u,v,rfl⟩⟩
    have:cs[0]? = some (.iface u v):=by
      have h2:=congrArg (fun l:List Value=>l[0]?) hcs
      simpa using h2
    exact this
  · have h1:=h.filter ziP
    rw [hl] at h1
    have h1:=(laidMetH_iff.1 h1).1
    exact Lib.tabIs_of_head zfG zl1 Tryz.underlying190 Tryz.underlying171 zjT zjS h1
end Go.Proofs.YtcikenlflcofbaaGreatDoor
