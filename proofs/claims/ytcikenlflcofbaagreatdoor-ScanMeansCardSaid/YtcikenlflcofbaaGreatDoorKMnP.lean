/-
  The sanity check of the laws of layer 28, and 'same'.
-/
import Derived.Test.YtcikenlflcofbaaGreatDoorKRuns
import Derived.Test.YtcikenlflcofbaaGreatDoorBase
import Derived.Test.YtcikenlflcofbaaGreatDoorKVfH
import Derived.Test.YtcikenlflcofbaaGreatDoorRulW
import Derived.Test.YtcikenlflcofbaaGreatDoorKStq
import Derived.Test.YtcikenlflcofbaaGreatDoorRCm
import Derived.Test.YtcikenlflcofbaaGreatDoorRTr
set_option maxRecDepth 100000
set_option maxHeartbeats 8000000
namespace Go.Proofs.YtcikenlflcofbaaGreatDoor
open Go.RowKit
def dPg:Pg:=⟨rIn,[[114]],[⟨19,1⟩],[⟨30,0⟩,⟨19,0⟩,⟨32,0⟩]⟩
theorem dCmp:cmpP (rRl [100, 101, 108, 97, 121, 40, 97, 44, 32, 49, 41]) rIn=(dPg,0,0):=by kernel_rfl
theorem dRun:runS dPg (one [1,1,0,1])=(one [0,1,0,0],0):=by kernel_rfl
theorem zj0 (w:World) (xs:List Int) (cs:Array Value) (hcs:cs.toList=xs.map (Value.int .i64)) (hn:xs.length≤1000):Rw IaC 1 (w.alloc (.cells cs 3)) (Old (w.alloc (.cells cs 3))) (some ⟨w.heap.size,0,none⟩) xs.length xs:=by
  have hl:cs.size=xs.length*1:=by rw [← Array.length_toList,hcs,List.length_map,Nat.mul_one]
  exact zjw (R:=IaC) (size:=1) w 3 xs (fun z=>[Value.int .i64 z]) cs (by rw [hcs,List.map_eq_flatMap]) hl (by unfold maxLen;omega) (fun _ _=>rfl) (fun _ _=>rfl)
theorem zgv (w:World) (hw:Lw w):Calls Tryz.prog 6 #[] w (RetB true w):=by
  have hb:=zaa w (Obj.cells #[.int .i64 1,.int .i64 1,.int .i64 0,.int .i64 1] 3);have hc:=zky [100, 101, 108, 97, 121, 40, 97, 44, 32, 49, 41] [1,1,0,1] [0,1,0,0] (some ⟨w.heap.size,0,none⟩) 4 (p:=dPg) (w.alloc (Obj.cells #[.int .i64 1,.int .i64 1,.int .i64 0,.int .i64 1] 3)) (hw.below hb) (by decide) (zj0 w _ _ rfl (by decide)) (by decide) dCmp dRun rfl;have HC:=Hi hc;have HB:=Hi hb;clear hc hb;go_enter Tryz.func6,Tryz.ntmps6;go_wp2_with fail
  refine HC.out.mono ?_
  rintro e w1 ⟨A,c,rfl,hc4,hm,hr,hb1⟩
  obtain ⟨b0,o0,x0,hA0,hS0,hx0,y0⟩:=iaAt hr (show 0<4 by decide);obtain ⟨b1,o1,x1,hA1,hS1,hx1,y1⟩:=iaAt hr (show 1<4 by decide);obtain ⟨b2,o2,x2,hA2,hS2,hx2,y2⟩:=iaAt hr (show 2<4 by decide);obtain ⟨b3,o3,x3,hA3,hS3,hx3,y3⟩:=iaAt hr (show 3<4 by decide);subst hA0;injection hA1 with hA1
  injection hA1 with q1 q2
  subst q1;subst q2;injection hA2 with hA2
  injection hA2 with q1 q2
  subst q1;subst q2;injection hA3 with hA3
  injection hA3 with q1 q2
  subst q1;subst q2
  cases hx0
  cases hx1
  cases hx2
  cases hx3
  rw [Nat.add_zero] at y0;have HB1:=Hi (zac HB.out hb1 HB.out.size);clear hr hb1 hS0 hS1 hS2 hS3 hc4 hm;dsimp only [List.length_cons,List.length_nil];go_wp2;go_ret
  exact ⟨rfl,HB1.out⟩
end Go.Proofs.YtcikenlflcofbaaGreatDoor
set_option maxRecDepth 100000
set_option maxHeartbeats 8000000
namespace Go.Proofs.YtcikenlflcofbaaGreatDoor
open Go.RowKit
def zfB (rs:List Rl) (ins:List Sg):Bool := !decide (16<rs.length∨20<ins.length) && rs.all fun r => !decide (120<r.text.length∨20<r.nm.length)
def FeS (w:World) (rs:List Rl) (g:Nat) (v:Value) (wr:World):Prop:=
  ∃ k:Nat,k≤rs.length∧rs.length-k<g∧v = .int .i64 (k:Int)∧(rs.drop k).all (fun r => !decide (120<r.text.length∨20<r.nm.length))=rs.all (fun r => !decide (120<r.text.length∨20<r.nm.length))∧Below w.heap.size w wr
theorem ziE (A:Option Addr) (c:Nat) (rs:List Rl) (A':Option Addr) (c':Nat) (ins:List Sg) (w:World) (hr:Rw RlC 2 w (fun b=>b<w.heap.size) A rs.length rs) :
    Calls Tryz.prog 5 #[.slice A rs.length c,.slice A' ins.length c'] w (RetB (zfB rs ins) w):=by
  have HR:=Hi hr;obtain ⟨r,hrr⟩:∃ r,zfB rs ins=r:=⟨_,rfl⟩;rw [hrr];unfold zfB at hrr;clear hr
  rcases (show (16:Int)<(rs.length:Int)∨((rs.length:Int)≤16∧(20:Int)<(ins.length:Int))∨((rs.length:Int)≤16∧(ins.length:Int)≤20) by omega) with d0 | ⟨d0,d1⟩ | ⟨d0,d1⟩
  case inr.inr =>
    rw [decide_eq_false (by omega)] at hrr;have HRR:=Hi (show (rs.all fun r => !decide (120<r.text.length∨20<r.nm.length))=r by simpa using hrr);clear hrr;go_enter Tryz.func5,Tryz.ntmps5;go_wp2;go_loopg [17] (rs.length+1) (fun g v wr=>FeS w rs g v wr)
    case atStart=>exact ⟨0,Nat.zero_le _,by omega,rfl,by rw [List.drop_zero],Below.refl _ _⟩
    case round =>
      obtain ⟨k,hk,hgk,rfl,hall,hbel⟩:=hrel
      by_cases hlt:k<rs.length
      case pos =>
        obtain ⟨b,o,x,hA,hSb,hx,hxl,htl,y0,y1⟩:=rlAt (HR.out.mono RlC.mono (fun _ q=>q) (zab hbel fun _ q=>q)) hlt;subst hA
        have hget:rs[k]=x:=by
          rw [List.getElem?_eq_getElem hlt] at hx;injection hx
        rw [List.drop_eq_getElem_cons hlt,hget,List.all_cons] at hall;obtain ⟨nm,tx⟩:=x;dsimp only at hxl htl y0 y1 hall;have hbk:b<wr.heap.size:=Nat.lt_of_lt_of_le hSb hbel.size;have HB:=Hi (hbel.alloc hbel.size (Obj.cells #[.string ⟨nm.toArray⟩,.string ⟨tx.toArray⟩] 46));have HALL:=Hi hall;unfold maxLen at hxl htl;clear hall hx hget hbel hSb
        rcases (show (120:Int)<(tx.length:Int)∨((tx.length:Int)≤120∧(20:Int)<(nm.length:Int))∨((tx.length:Int)≤120∧(nm.length:Int)≤20) by omega) with e0 | ⟨e0,e1⟩ | ⟨e0,e1⟩
        case inr.inr =>
          have hall:=HALL.out;rw [decide_eq_false (by omega),Bool.not_false,Bool.true_and] at hall;have HALL2:=Hi hall;clear hall HALL;go_wp2;go_roundg (rs.length-k)
          case measure=>omega
          case rel=>exact ⟨k+1,by omega,by omega,by go_num,HALL2.out,HB.out⟩
        all_goals
          have HE:=Hi (show false=r by rw [← HRR.out,← HALL.out,decide_eq_true (by omega)];rfl);clear HALL HRR;go_wp2;go_ret
          exact ⟨zae HE.out,HB.out⟩
      obtain rfl:k=rs.length:=by omega
      rw [List.drop_length] at hall;have HE:=Hi (show true=r by rw [← HRR.out,← hall];rfl);have HB:=Hi hbel;clear hall hlt HRR hbel;go_wp2;go_ret
      exact ⟨zae HE.out,HB.out⟩
  all_goals
    have HE:=Hi (show false=r by rw [← hrr,decide_eq_true (by omega)];rfl);clear hrr;go_enter Tryz.func5,Tryz.ntmps5;go_wp2;go_ret
    exact ⟨zae HE.out,Below.refl _ _⟩
end Go.Proofs.YtcikenlflcofbaaGreatDoor
namespace Go.Proofs.YtcikenlflcofbaaGreatDoor
open Go.RowKit Go.Deep
section
variable {H : Type} {enc : TypeId × Value → H} {P : Program} {w : World} {base : Nat} {spare : Nat → Bool} {held : Bool}
theorem ziR {α:Type} (p:Nat→α→Prop):∀ n:Nat,(∀ i,i<n→∃ y,p i y)→∃ l:List α,l.length=n∧∀ k y,l[k]? = some y→p k y
  | 0,_=>⟨[],rfl,fun k y h=>by simp at h⟩
  | n+1,h=>by
    obtain ⟨l,hl,hp⟩:=ziR p n fun i hi=>h i (by omega)
    obtain ⟨y,hy⟩:=h n (by omega);refine ⟨l++[y],by simp [hl],fun k z hz => ?_⟩
    rcases Nat.lt_or_ge k n with hk | hk
    · rw [List.getElem?_append_left (by omega)] at hz;exact hp k z hz
    · have hk':k=n:=by
        have:=(List.getElem?_eq_some_iff.1 hz).1;simp at this;omega
      subst hk';rw [List.getElem?_append_right (by omega)] at hz;simp [hl] at hz
      subst hz;exact hy
theorem zjA {a:Addr} {v:Value} (h:w.cell? a=some v):a.spot=Option.none:=by
  unfold World.cell? at h
  split at h
  · split at h
    · cases h
    · rename_i hs
      cases hsp:a.spot with
      | none=>rfl
      | some x=>rw [hsp] at hs;simp at hs
  · cases h
theorem zbT {α:Type} {R:World→Nat→List Value→α→Prop} {t e:TypeId} {size fuel:Nat} {cs:List Value} {x:DataW H × List MemPlace} (hpos:0<size) (ht:P.underlying t=some (.slice e)) (hC:P.cellsOf e=size)
    (hel:∀ (n:Nat) (ds:List Value) (y:DataW H × List MemPlace),ds.length=size→DataW.trod enc P w base spare held n e ds=some y→∃ z,R w w.heap.size ds z)
    (h:DataW.trod enc P w base spare held fuel t cs=some x):∃ zs,zld R size w w.heap.size cs zs:=by
  rcases open_slice ht h with ⟨rfl,_⟩ | ⟨a,len,cap,m,n,D,Pl,rfl,hb,hl,hm,hmm,hx,hi⟩
  · exact ⟨[],Option.none,0,rfl,Nat.le_refl _,Nat.zero_le _,rfl,fun h=>absurd h (Nat.not_lt_zero _)⟩
  · have hlm:len≤m:=by rw [hmm];split <;> omega
    have hper:∀ i,i<len→∃ z,∃ ds,ds.length=size∧R w w.heap.size ds z∧∀ j v,ds[j]? = some v→w.cell? (a.add (i*size+j))=some v:=by
      intro i hil
      obtain ⟨ds,hds,htr⟩:=hi i (by omega)
      rw [hC] at hds
      obtain ⟨_,hdl,hat⟩:=World.cells?_some hds
      obtain ⟨z,hz⟩:=hel n ds _ hdl htr
      refine ⟨z,ds,hdl,hz,fun j v hv => ?_⟩
      have hj:j<size:=by have:=(List.getElem?_eq_some_iff.1 hv).1;omega
      have:=hat j hj
      rw [Go.Deep.add_add] at this
      rw [this,hv]
    obtain ⟨zs,hzl,hzp⟩:=ziR _ len hper
    refine ⟨zs,some a,cap,by rw [hzl],by omega,hm,rfl,fun hn => ?_⟩
    obtain ⟨ds0,hd0,_,hc0⟩:=hzp 0 (zs[0]'(by omega)) (List.getElem?_eq_getElem (by omega))
    have hcell0:=hc0 0 (ds0[0]'(by omega)) (List.getElem?_eq_getElem (by omega))
    have ha:a=⟨a.block,a.off,Option.none⟩:=by
      have:a.add (0*size+0)=a:=by simp [Addr.add]
      rw [this] at hcell0
      have:=zjA hcell0
      cases a;simp_all
    have hblk:a.block<w.heap.size:=by
      have:a.add (0*size+0)=a:=by simp [Addr.add]
      rw [this] at hcell0
      exact block_lt_of_cell hcell0
    refine ⟨a.block,a.off,congrArg some ha,hblk,fun k z hz => ?_⟩
    obtain ⟨ds,hdl,hR,hat⟩:=hzp k z hz
    refine ⟨ds,hdl,hR,fun j v hv => ?_⟩
    have:=hat j v hv
    rw [ha,Addr.add_mid] at this
    simpa [Nat.add_assoc] using this
theorem zcZ {t:TypeId} {fs:Array Field} {fuel:Nat} {cs:List Value} {x:DataW H × List MemPlace} (ht:P.underlying t=some (.struct fs)) (h:DataW.trod enc P w base spare held fuel t cs=some x)
    (i:Nat) {f:Field} (hf:fs[i]? = some f) (h1:P.cellsOf f.type=1) (hoff:f.offset<P.cellsOf t) :
    ∃ n v y,cs[f.offset]? = some v∧DataW.trod enc P w base spare held n f.type [v]=some y:=by
  obtain ⟨xs,n,_,_,hlen,hxl,hg⟩:=DataW.trod_struct ht h;have hif:i<fs.size:=(Array.getElem?_eq_some_iff.1 hf).1;have hgi:=hg i f hf;rw [h1] at hgi;have hl:f.offset<cs.length:=by omega
  have hone:(cs.drop f.offset).take 1=[cs[f.offset]'hl]:=by
    rw [List.drop_eq_getElem_cons hl];rfl
  rw [hone,List.getElem?_eq_getElem (by omega)] at hgi;exact ⟨n,_,_,List.getElem?_eq_getElem hl,hgi⟩
theorem zho {t:TypeId} {fs:Array Field} {fuel:Nat} {cs:List Value} {x:DataW H × List MemPlace} (ht:P.underlying t=some (.struct fs)) (h:DataW.trod enc P w base spare held fuel t cs=some x):cs.length=P.cellsOf t:=by
  obtain ⟨xs,n,_,_,hlen,_⟩:=DataW.trod_struct ht h;exact hlen
end
end Go.Proofs.YtcikenlflcofbaaGreatDoor
namespace Go.Proofs.YtcikenlflcofbaaGreatDoor
open Go.RowKit Go.Deep
theorem zjR : Tryz.prog.cellsOf 3 = 1:=by kernel_rfl
theorem zeS : Tryz.prog.cellsOf 9 = 1:=by kernel_rfl
theorem zeR : Tryz.prog.cellsOf 40 = 2:=by kernel_rfl
theorem zgh {l:List Value} (h:l.length=2):∃ a b,l=[a,b]:=by
  match l,h with
  | [a,b],_=>exact ⟨a,b,rfl⟩
def SgCs (w:World) (_:Nat) (cs:List Value) (s:Sg):Prop:=SgC w (fun _=>True) cs s
theorem zdj {α:Type} {R:World→Nat→List Value→α→Prop} {R':World→(Nat→Prop)→List Value→α→Prop} {size n:Nat} {w:World} {A:Option Addr} {xs:List α} (h:Rws R size w w.heap.size A n xs) (hR:∀ cs x,R w w.heap.size cs x→R' w (fun b=>b<w.heap.size) cs x):Rw R' size w (fun b=>b<w.heap.size) A n xs:=by
  refine ⟨h.1,fun hn => ?_⟩
  obtain ⟨b,o,e,hb,hr⟩:=h.2 hn;refine ⟨b,o,e,hb,fun k x hx => ?_⟩
  obtain ⟨cs,h1,h2,h3⟩:=hr k x hx;exact ⟨cs,h1,hR cs x h2,h3⟩
section
variable {H : Type} {enc : TypeId × Value → H} {w : World} {base : Nat} {spare : Nat → Bool} {held : Bool}
theorem zlW {fuel:Nat} {cs:List Value} {x:DataW H × List MemPlace} (h:DataW.trod enc Tryz.prog w base spare held fuel 40 cs=some x):∃ z,SgCs w w.heap.size cs z:=by
  obtain ⟨a,b,rfl⟩:=zgh ((zho Tryz.underlying40 h).trans zeR);obtain ⟨n0,v0,y0,e0,t0⟩:=zcZ Tryz.underlying40 h 0 rfl zeS (by rw [zeR];decide);obtain ⟨n1,v1,y1,e1,t1⟩:=zcZ Tryz.underlying40 h 1 rfl zjR (by rw [zeR];decide)
  cases e0;cases e1
  obtain ⟨s,p0,_,w0⟩:=DataW.trod_string Tryz.underlying9 t0;obtain ⟨n,p1,_,w1⟩:=DataW.trod_int Tryz.underlying3 t1
  cases p0;cases p1
  obtain ⟨⟨nm⟩⟩:=s;exact ⟨⟨nm,n⟩,rfl,by simpa [ByteArray.size] using w0,w1⟩
theorem zkz {fuel:Nat} {cs:List Value} {x:DataW H × List MemPlace} (h:DataW.trod enc Tryz.prog w base spare held fuel 23 cs=some x) :
    ∃ (A:Option Addr) (c:Nat) (es:List Sg),cs=[.slice A es.length c]∧es.length≤c∧c≤maxLen∧Rw SgC 2 w (fun b=>b<w.heap.size) A es.length es:=by
  obtain ⟨es,A,c,rfl,h1,h2,h3⟩:=zbT (R:=SgCs) (by decide) Tryz.underlying23 zeR (fun n ds y _ hy=>zlW hy) h;exact ⟨A,c,es,rfl,h1,h2,zdj h3 fun _ _ q=>q⟩
end
end Go.Proofs.YtcikenlflcofbaaGreatDoor
namespace Go.Proofs.YtcikenlflcofbaaGreatDoor
open Go.RowKit Go.Deep
theorem ziv : Tryz.prog.cellsOf 3 = 1:=by kernel_rfl
theorem zhu : Tryz.prog.cellsOf 38 = 1:=by kernel_rfl
def IaCs (w:World) (_:Nat) (cs:List Value) (b:Int):Prop:=IaC w (fun _=>True) cs b
def LsCs (w:World) (_:Nat) (cs:List Value) (x:List Int):Prop:=LsC w (fun b=>b<w.heap.size) cs x
section
variable {H : Type} {enc : TypeId × Value → H} {w : World} {base : Nat} {spare : Nat → Bool} {held : Bool}
theorem ziK {fuel:Nat} {cs:List Value} {x:DataW H × List MemPlace} (h:DataW.trod enc Tryz.prog w base spare held fuel 38 cs=some x) :
    ∃ (A:Option Addr) (c:Nat) (es:List Int),cs=[.slice A es.length c]∧es.length≤c∧c≤maxLen∧Rw IaC 1 w (fun b=>b<w.heap.size) A es.length es:=by
  obtain ⟨es,A,c,rfl,h1,h2,h3⟩:=zbT (R:=IaCs) (by decide) Tryz.underlying38 ziv (fun n ds y _ hy=>by obtain ⟨b,hb,_⟩:=DataW.trod_int Tryz.underlying3 hy;exact ⟨b,hb⟩) h;exact ⟨A,c,es,rfl,h1,h2,zdj h3 fun _ _ q=>q⟩
theorem zhF {fuel:Nat} {cs:List Value} {x:DataW H × List MemPlace} (h:DataW.trod enc Tryz.prog w base spare held fuel 24 cs=some x) :
    ∃ (A:Option Addr) (c:Nat) (es:List (List Int)),cs=[.slice A es.length c]∧es.length≤c∧c≤maxLen∧Rw LsC 1 w (fun b=>b<w.heap.size) A es.length es:=by
  obtain ⟨es,A,c,rfl,h1,h2,h3⟩:=zbT (R:=LsCs) (by decide) Tryz.underlying24 zhu (fun n ds y _ hy=>by obtain ⟨A,c,es,e1,e2,e3,e4⟩:=ziK hy;exact ⟨es,A,c,e1,e2,e3,e4⟩) h;exact ⟨A,c,es,rfl,h1,h2,zdj h3 fun _ _ q=>q⟩
end
end Go.Proofs.YtcikenlflcofbaaGreatDoor
namespace Go.Proofs.YtcikenlflcofbaaGreatDoor
open Go.RowKit
theorem hpm:(∀ (w:World) (o:Obj),(w.alloc o).heap=w.heap.push o)∧(∀ w:World,w.drew.heap=w.heap)∧(∀ (xs:Array Obj) (x:Obj) (i:Nat),(xs.push x)[i]? = if i=xs.size then some x else xs[i]?)∧(∀ (xs:Array Obj) (x:Obj),(xs.push x).size=xs.size+1)∧∀ (h:Decidable True) (a b:Option Obj),@ite _ True h a b=a:=
  ⟨fun _ _=>rfl,fun _=>rfl,fun _ _ _=>Array.getElem?_push,fun _ _=>Array.size_push _,fun _ _ _=>if_pos trivial⟩
theorem zli {rs:List Rl} {ins:List Sg} {p:Pg} {a:Int} (h:cmpP rs ins=(p,a,0)):∃ env,CmpOk rs ins p env∧(verP p).2.2=0:=by
  unfold cmpP at h
  by_cases hc:(zcm rs ins).2.2=0
  · rw [if_pos hc] at h
    injection h with h1 h2
    subst h1
    obtain ⟨env,ho,-⟩:=cmp_ok hc
    exact ⟨env,ho,by rw [zfv ho fun t ht=>za6 ht]⟩
  · rw [if_neg hc] at h
    injection h with h1 h2
    exact absurd (by rw [h2]) hc
theorem zjv {p:Pg}:∀ {xs:List (List Int)} {m:Mm} {l:List (List Int)},(∀ x∈xs,zdf p x=true)→∃ L,runL p xs m l=(L,0)
  | [],m,l,_=>⟨l,rfl⟩
  | x::xs,m,l,h=>by
    rw [zdh,if_neg (by rw [h x List.mem_cons_self];decide)];exact zjv fun y hy=>h y (List.mem_cons_of_mem _ hy)
theorem zfd {p:Pg}:∀ {xs:List (List Int)} {m:Mm} {l L:List (List Int)},runL p xs m l=(L,0)→L.length=l.length+xs.length∧∀ (i:Nat) (x:List Int),l[i]? = some x→L[i]? = some x
  | [],m,l,L,h=>by
    have h':(l,(0:Int))=(L,0):=h;injection h' with h1
    subst h1;exact ⟨rfl,fun i x hx=>hx⟩
  | x::xs,m,l,L,h=>by
    rw [zdh] at h
    split at h
    · injection h with _ h2;exact absurd h2 (by decide)
    · obtain ⟨h1,h2⟩:=zfd h
      refine ⟨by rw [h1,List.length_append,List.length_singleton,List.length_cons];omega,fun i y hy=>h2 i y ?_⟩
      rw [List.getElem?_append_left (List.getElem?_eq_some_iff.1 hy).1]
      exact hy
structure NvW (W:World) (B:Nat) (vN vV:Value) (ns:List (List UInt8)) (vs:List Int) (n:Nat):Prop where
  nr:W.ownsRow B 9 1 vN n (ns.map nmV)
  vr:W.ownsRow B 3 1 vV n (vs.map (Value.int .i64))
  ap:∀ g,vN.ownBlock=some g→vV.ownBlock≠some g
theorem NvW.keep {W W':World} {B:Nat} {vN vV:Value} {ns:List (List UInt8)} {vs:List Int} {n:Nat} (h:NvW W B vN vV ns vs n) (k:∀ g,B≤g→g<W.heap.size→W'.heap[g]? = W.heap[g]?):NvW W' B vN vV ns vs n:=
  ⟨zam h.nr (fun g e hl=>k g (h.nr.lt g e).1 hl),zam h.vr (fun g e hl=>k g (h.vr.lt g e).1 hl),h.ap⟩
def NvR (U:World) (B:Nat) (ns:List (List UInt8)) (vs:List Int) (n:Nat) (vN vV:Value) (W:World):Prop:=NvW W B vN vV ns vs n∧KB (fun g=>B≤g) U W
theorem zbQ {w w':World} {row:Option Nat} (h:w.grownBy w' row):w.grownBy w'.drew row:=⟨h.os,h.tape,h.output,h.size,h.block⟩
theorem zaN {P:Program} {U w:World} {ops:Array Oper} {o:Oper} {a:Act} {K:Act→World→Prop} {Q:Exit→Act→World→Prop} {E:Prop} (s x:Operand) (t:TypeId)
    {base:Nat} {e te:TypeId} {i:TypeInfo} {z u:Value} {bytes b n c:Nat} {xs:List Value} {A:Option Addr} (hgd:o.guard=Option.none)
    (ho:o.op = .call { callee := .builtin .append,args := #[s,x],argTypes := #[t,t] })
    (ht:P.underlying t=some (.slice e)) (hi:P.info? e=some i) (hz:i.zero=some z) (hsize:i.size=1) (hby:i.bytes=bytes) (hzs:z.cells.size=1)
    (hs:a.eval s = .slice A n c) (hx:a.eval x = .slice (some ⟨b,0,none⟩) 1 1) (hown:U.ownsRow base e 1 (.slice A n c) n xs) (hgr:U.grownBy w Option.none) (hsrc:w.heap[b]? = some (Obj.cells #[u] te)) (h1:u.oneCell'=true)
    (h63:n+1≤maxLen) (hbytes:(n+1)*bytes≤140737488355328) (hbase:base≤U.heap.size)
    (h:∀ A' c' w',w'.ownsRow base e 1 (.slice A' (n+1) c') (n+1) (xs++[u])→w.grownBy w' (Value.slice A n c).ownBlock→U.grownBy w' (Value.slice A n c).ownBlock→Fresh U (.slice A n c) (.slice A' (n+1) c')→U.heap.size≤w'.heap.size→K (a.put o.dst (.slice A' (n+1) c')) w') :
    if Region.wanted o (yielded ops a.tmps)=true then Oper.wp P o a w K Q else E:=by
  have hrow:w.ownsRow base e 1 (.slice A n c) n xs:=zam hown fun g e hl=>hgr.block g hl (by simp)
  have hsr:Src w 1 (some ⟨b,0,none⟩) 1 [u]:=⟨rfl,fun _=>⟨_,rfl,fun j y hy=>by
    cases j with
    | zero =>
      simp at hy
      subst hy;simp [Addr.add,World.cell?,hsrc]
    | succ j=>simp at hy⟩⟩
  refine zaW s x t hgd ho ht hi hz hsize hby hzs (by decide) hs hrow hx hsr (fun y hy=>by rw [List.mem_singleton.1 hy];exact h1) h63 hbytes (Nat.le_trans hbase hgr.size) fun v' w' hown' hg' hv' => ?_
  obtain ⟨A',c',rfl,-,-⟩:=zag hown';have hU:U.grownBy w' (Value.slice A n c).ownBlock:=⟨hg'.os.trans hgr.os,hg'.tape.trans hgr.tape,hg'.output.trans hgr.output,Nat.le_trans hgr.size hg'.size,fun k hk hn=>(hg'.block k (Nat.lt_of_lt_of_le hk hgr.size) hn).trans (hgr.block k hk (by simp))⟩;refine h A' c' w' hown' hg' hU ?_ (Nat.le_trans hgr.size hg'.size)
  rcases hv' with q | q
  · exact .inl q
  · exact .inr ⟨_,q,hgr.size⟩
theorem zdO {U:World} {v v' x:Value} {base n:Nat} {e:TypeId} {xs:List Value} (hf:Fresh U v v') (hx:U.ownsRow base e 1 x n xs) (hap:∀ g,v.ownBlock=some g→x.ownBlock≠some g):∀ g,v'.ownBlock=some g→x.ownBlock≠some g:=fun g e q=>by
  rcases hf with f | ⟨z,f,hz⟩
  · exact hap g (f.symm.trans e) q
  · have:=(hx.lt g q).2
    rw [f] at e
    injection e with e
    omega
theorem ze2 {w:World} {base n c:Nat} {e:TypeId} {A:Option Addr} {xs:List Value} {k:Nat} (h:w.ownsRow base e 1 (.slice A n c) n xs) (hk:w.heap.size≤k):some k≠(Value.slice A n c).ownBlock:=fun q=>by have:=(h.lt k q.symm).2;omega
theorem zdP {B:Nat} {U w:World} {base n:Nat} {e:TypeId} {v:Value} {xs:List Value} (h:U.grownBy w v.ownBlock) (hr:U.ownsRow base e 1 v n xs) (hB:B≤base):KB (fun g=>B≤g) U w:=KB.of_grown h fun g _ q=>Nat.le_trans hB (hr.lt g q).1
theorem zj7 {U w5 w6:World} {B n cN cV cN' cV':Nat} {AN AV AN' AV':Option Addr} {ns:List (List UInt8)} {vs:List Int} {nm:List UInt8} {z:Int} (hn:U.ownsRow B 9 1 (.slice AN n cN) n (ns.map nmV)) (hv:U.ownsRow B 3 1 (.slice AV n cV) n (vs.map (Value.int .i64))) (hap:∀ g,(Value.slice AN n cN).ownBlock=some g→(Value.slice AV n cV).ownBlock≠some g)
    (o1:w5.ownsRow B 9 1 (.slice AN' (n+1) cN') (n+1) (ns.map nmV++[nmV nm])) (g1:U.grownBy w5 (Value.slice AN n cN).ownBlock) (f1:Fresh U (.slice AN n cN) (.slice AN' (n+1) cN'))
    (o2:w6.ownsRow B 3 1 (.slice AV' (n+1) cV') (n+1) (vs.map (Value.int .i64)++[.int .i64 z])) (g2:w5.grownBy w6 (Value.slice AV n cV).ownBlock) (f2:Fresh w5 (.slice AV n cV) (.slice AV' (n+1) cV')):NvR U B (ns++[nm]) (vs++[z]) (n+1) (.slice AN' (n+1) cN') (.slice AV' (n+1) cV') w6:=by
  have hne:=zdO f1 hv hap;have hv5:w5.ownsRow B 3 1 (.slice AV n cV) n (vs.map (Value.int .i64)):=zam hv (fun g e hl=>g1.block g hl (fun q=>hap g q.symm e));refine ⟨⟨by rw [List.map_append];exact zam o1 (fun g e hl=>g2.block g hl (fun q=>hne g e q.symm)),by rw [List.map_append];exact o2,fun g e q => ?_⟩,(zdP g1 hn (Nat.le_refl _)).trans (zdP g2 hv5 (Nat.le_refl _))⟩
  exact zdO f2 o1 (fun g q1 q2=>hne g q2 q1) g q e
theorem zj8 {U w5 w6:World} {B n cN cV cN' cV':Nat} {AN AV AN' AV':Option Addr} {ns:List (List UInt8)} {vs:List Int} {nm:List UInt8} {z:Int} (hn:U.ownsRow B 9 1 (.slice AN n cN) n (ns.map nmV)) (hv:U.ownsRow B 3 1 (.slice AV n cV) n (vs.map (Value.int .i64))) (hap:∀ g,(Value.slice AN n cN).ownBlock=some g→(Value.slice AV n cV).ownBlock≠some g)
    (o1:w5.ownsRow B 3 1 (.slice AV' (n+1) cV') (n+1) (vs.map (Value.int .i64)++[.int .i64 z])) (g1:U.grownBy w5 (Value.slice AV n cV).ownBlock) (f1:Fresh U (.slice AV n cV) (.slice AV' (n+1) cV'))
    (o2:w6.ownsRow B 9 1 (.slice AN' (n+1) cN') (n+1) (ns.map nmV++[nmV nm])) (g2:w5.grownBy w6 (Value.slice AN n cN).ownBlock) (f2:Fresh w5 (.slice AN n cN) (.slice AN' (n+1) cN')):NvR U B (ns++[nm]) (vs++[z]) (n+1) (.slice AN' (n+1) cN') (.slice AV' (n+1) cV') w6:=by
  have hap':∀ g,(Value.slice AV n cV).ownBlock=some g→(Value.slice AN n cN).ownBlock≠some g:=fun g q1 q2=>hap g q2 q1
  have hne:=zdO f1 hn hap';have hn5:w5.ownsRow B 9 1 (.slice AN n cN) n (ns.map nmV):=zam hn (fun g e hl=>g1.block g hl (fun q=>hap g e q.symm));refine ⟨⟨by rw [List.map_append];exact o2,by rw [List.map_append];exact zam o1 (fun g e hl=>g2.block g hl (fun q=>hne g e q.symm)),?_⟩,(zdP g1 hv (Nat.le_refl _)).trans (zdP g2 hn5 (Nat.le_refl _))⟩
  exact zdO f2 o1 (fun g q1 q2=>hne g q2 q1)
def MnA (W:World) (p:Pg) (xs:List (List Int)) (g:Nat) (v:Value) (wr:World):Prop:=
  ∃ k:Nat,k≤xs.length∧xs.length-k<g∧v = .int .i64 (k:Int)∧(∀ (i:Nat) (x:List Int),i<k→xs[i]? = some x→zdf p x=true)∧Below W.heap.size W wr
def MnB (W:World) (l:List (Sg × Int)) (n g:Nat) (v:Value) (wr:World):Prop:=∃ k:Nat,k≤n∧n-k<g∧v = .int .i64 (k:Int)∧(l.drop k).all rdB=l.all rdB∧Below W.heap.size W wr
def MnS (W:World) (p:Pg) (xs L:List (List Int)) (gv cv nv gc cc nc:Nat) (g:Nat) (v:Value) (wr:World):Prop:=
  ∃ (k:Nat) (vals:List Int) (cs:List Cs) (l:List (List Int)),k≤xs.length∧xs.length-k<g∧v = .int .i64 (k:Int)∧runL p (xs.drop k) ⟨vals,cs⟩ l=(L,0)∧l.length=k∧zeP p vals∧zdG p cs ∧
    VaW wr W.heap.size gv cv nv vals∧CeW wr W.heap.size gc cc nc cs∧Below W.heap.size W wr
def MnD (W:World) (fN:Nat→List (List UInt8)) (fV:Nat→List Int) (o n g:Nat) (vN vV v:Value) (wq:World):Prop:=
  ∃ i:Nat,i≤n∧n-i<g∧v = .int .i64 (i:Int)∧NvW wq W.heap.size vN vV (fN i) (fV i) (o+i)∧Below W.heap.size W wq
theorem zg4 {W0 U W:World} {fN:Nat→List (List UInt8)} {fV:Nat→List Int} {o n g i:Nat} {vN vV v:Value} (h:NvR U W0.heap.size (fN (i+1)) (fV (i+1)) (o+(i+1)) vN vV W) (hb:Below W0.heap.size W0 U) (hi:i+1≤n) (hg:n-(i+1)<g) (hv:v = .int .i64 ((i+1:Nat):Int)):MnD W0 fN fV o n g vN vV v W:=
  ⟨i+1,hi,hg,hv,h.1,hb.trans (h.2.below hb.size (fun _ q=>q))⟩
def MnT (W0:World) (b0:Nat) (names:List (List UInt8)) (lim:List Int) (trs:List Ex) (R:List Int × List Cs × Nat) (N gv cv nv gc cc nc:Nat) (vN vV:Value) (g:Nat) (v26 v190:Value) (wq:World):Prop:=
  ∃ (i:Nat) (vals:List Int) (cs:List Cs) (k:Nat),i≤trs.length∧trs.length-i<g∧v190 = .int .i64 (i:Int)∧v26 = .int .i64 (k:Int)∧zck names lim (trs.drop i) i vals cs k=R∧zfc names lim (trs.drop i) i vals cs k ∧
    VaW wq b0 gv cv nv vals∧CeW wq b0 gc cc nc cs∧NvW wq W0.heap.size vN vV names (lim++vals) N∧KB (fun g=>g=gv∨g=gc∨W0.heap.size≤g) W0 wq
def MnE (W:World) (vals:List Int) (g:Nat) (v:Value) (wq:World):Prop:=∃ i:Nat,i≤vals.length∧vals.length-i<g∧v = .int .i64 (i:Int)∧Below W.heap.size W wq
end Go.Proofs.YtcikenlflcofbaaGreatDoor
