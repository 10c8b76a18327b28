/-
 The facts that office.opened and step want, from what a configuration without errors keeps. Plain; no walk.
-/
import Derived.Test.YtjkimieapfbhbaaGreatDoorOd
open List renaming getElem?_map → l, mem_of_getElem? → C, length_map → D, getElem?_eq_getElem → E, getElem?_of_mem → F, getElem?_eq_none → G, length_append → H
namespace Go.Proofs.YtjkimieapfbhbaaGreatDoor
open Go.RowKit
theorem ziD {w:World} {B:Nat} {p:StAt} {S:StatM} {A:Option Addr} {c:Nat} {xs:List RelayX} (h:ConfX w B p S A c xs) {i:Nat} {x:RelayX} (hx:xs[i]? = some x):x.r.pubs=x.pubs.map (·.set):=by
 obtain ⟨cs,hc⟩:=h.rows.all_ x (C hx);exact hc.same
def zd2 (xs:List RelayX):Prop:=∀ (i:Nat) (x:RelayX),xs[i]? = some x→x.r.pubs=x.pubs.map (·.set)
theorem zcR {xs:List RelayX} {i:Nat} {x:RelayX} (hx:xs[i]? = some x):(zap xs)[i]? = some x.r:=by
 unfold zap;rw [l,hx]
 rfl
theorem zll {r:RelayM} (h:ownE r=0):zaN (pubK r) r.pubs.length:=by
 have h1:=(zii h).1;unfold ownE at h;rw [h1] at h;simp only [Bool.false_eq_true,if_false] at h
 by_cases h0:zg3 r.outputs r.sets=0
 · simp only [h0,ne_eq,not_true,if_false] at h
   exact zcf h
 · simp [h0] at h
theorem zih {S:StatM} {xs:List RelayX} (h:CfgF S xs) {i:Nat} {x:RelayX} (hx:xs[i]? = some x):ownE x.r=0∧zaN (subK (zap xs) i) x.r.subs.length := 
 zlk (zcR hx) (ze7 h.sigs i (List.getElem?_eq_some_iff.1 hx).1)
theorem zgG {S:StatM} {xs:List RelayX} (h:CfgF S xs) (hs:zd2 xs):PubsOk xs:=by
 refine ⟨fun i x hx p hp => ?_,fun i x hx k p hk=>((h.rels i x hx).lists.pubs k p hk).apart⟩
 obtain ⟨k,hk⟩:=F hp;have hk2:x.r.pubs[k]? = some p.set:=by rw [hs i x hx,l,hk];rfl
 have hz:=zll (zih h hx).1 k (List.getElem?_eq_some_iff.1 hk2).1;simp only [pubK,hk2] at hz
 rcases zba (fun d=>same d.1 p.set) x.r.sets with ⟨e,-⟩ | ⟨d,y,e,hd,hy,-⟩
 · rw [e] at hz
   simp at hz
 · refine ⟨y,?_,zdU.1 hy⟩
   unfold zcT
   rw [e]
   simpa using hd
theorem zfO {S:StatM} {xs:List RelayX} (h:CfgF S xs) (hs:zd2 xs) (hn:xs.length≤20):(zah xs xs.length).length≤80:=by
 have:=zdS (xs:=xs) (fun i x hx=>by
  have h1:=(h.rels i x hx).count.pubs;rw [hs i x hx,D] at h1;exact h1) xs.length
 omega
theorem zfg {S:StatM} {xs:List RelayX} (h:CfgF S xs):∀ e∈zah xs xs.length,(1≤e.first∧e.first≤100)∧(e.first≤e.max∧e.max≤1000):=by
 intro e he;obtain ⟨x,p,hx,hp,heq⟩:=zcP e he;obtain ⟨k,hk⟩:=F hp;have h1:=(h.rels _ x hx).lists.pubs k p hk;rw [heq];exact ⟨h1.first,h1.max⟩
theorem zi0 {xs:List RelayX} (hn:xs.length≤20):∀ e∈zah xs xs.length,e.relay<20:=fun e he=>Nat.lt_of_lt_of_le (zc1 e he) hn
theorem zgH {S:StatM} {xs:List RelayX} (h:CfgF S xs) (hs:zd2 xs) (hn:zaH (zap xs)):∀ e∈zah xs xs.length,e.sigs.length≤24∧∀ z∈e.sigs,0≤z∧z≤900:=by
 intro e he;obtain ⟨x,p,hx,hp,heq⟩:=zcP e he;obtain ⟨d,hd,-⟩:=(zgG h hs).set _ x hx p hp;have hsg:zdZ x.r (zcT x.r p.set)=d.2:=by unfold zdZ;rw [hd];rfl
 have hc:=(h.rels _ x hx).count.sigs _ d hd;rw [heq];refine ⟨?_,fun z hz => ?_⟩
 · show ((zdZ x.r (zcT x.r p.set)).map (zch x.r)).length≤24
   rw [D,hsg]
   exact hc.2
 · replace hz:z∈(zdZ x.r (zcT x.r p.set)).map (zch x.r):=hz
   rw [hsg] at hz
   obtain ⟨y,hy,rfl⟩:=List.mem_map.1 hz
   obtain ⟨j,hj⟩:=F hy
   have h1:=zfe (zih h hx).1 hd hj
   have h2:=(ze9 (fun s=>same s y) x.r.outputs).2
   have h3:x.r.outputs.length≤36:=by
    have:=zbS x.r.kind
    have:=(hn.2 x.r (C (zcR hx))).rules
    simp only [RelayM.outputs,H,D]
    omega
   exact ⟨h1,by show idx _ _≤_;omega⟩
def zcW (xs:List RelayX) (k:Nat) (x:RelayX):List (Nat × Nat):=(List.range x.r.subs.length).map fun (j:Nat) =>
 ((zca (zah xs xs.length) (zbi (zap xs) (k:Int) (j:Int)).1.toNat (zbi (zap xs) (k:Int) (j:Int)).2.1.toNat).getD 0,(zbi (zap xs) (k:Int) (j:Int)).2.2.1.toNat)
def zaD (xs:List RelayX):List (List (Nat × Nat)):=xs.mapIdx fun k x=>zcW xs k x
theorem zeL {S:StatM} {xs:List RelayX} (h:CfgF S xs) (hs:zd2 xs) {i k:Nat} {x:RelayX} {y:SubM} (hx:xs[i]? = some x) (hy:x.r.subs[k]? = some y) :
 ∃ (d s j n:Nat) (z:RelayX) (ds:ByteArray × List ByteArray),zbi (zap xs) (i:Int) (k:Int)=((d:Int),(s:Int),(j:Int),0)∧Denotes (zap xs) i y d s j z.r ds∧xs[d]? = some z∧zca (zah xs xs.length) d s=some n:=by
 obtain ⟨d,s,j,r,ds,hF,hD⟩:=zmb (zcR hx) hy ((zih h hx).2 k (List.getElem?_eq_some_iff.1 hy).1);have hr:=hD.relay;unfold zap at hr;rw [l] at hr
 cases hz:xs[d]? with
 | none=>rw [hz] at hr;cases hr
 | some z =>
   rw [hz] at hr
   cases hr
   have hp:=hD.pub
   unfold has at hp
   rcases zba (fun p=>same p y.set) z.r.pubs with ⟨e,-⟩ | ⟨q,u,e,hq,hu,-⟩
   · rw [e] at hp
     simp at hp
   · rw [hs d z hz,l] at hq
     cases hp2:z.pubs[q]? with
     | none=>rw [hp2] at hq;cases hq
     | some p =>
       rw [hp2] at hq
       have hps:p.set=u:=by simpa using hq
       have hset:p.set=y.set:=by rw [hps];exact zdU.1 hu
       have hm:=zff hz (C hp2) (List.getElem?_eq_some_iff.1 hz).1
       obtain ⟨n,hn⟩:=zj6 hm
       have hix:zcT z.r p.set=s:=by
        unfold zcT
        rw [hset,hD.setIdx]
        rfl
       refine ⟨d,s,j,n,z,ds,hF,hD,hz,?_⟩
       have e1:(pubE d z p).relay=d:=rfl
       have e2:(pubE d z p).set=zcT z.r p.set:=rfl
       rw [e1,e2,hix] at hn
       exact hn
theorem zmi {S:StatM} {xs:List RelayX} (h:CfgF S xs) (hs:zd2 xs) (hn:xs.length≤20):∀ (k:Nat) (x:RelayX),xs[k]? = some x→∃ ins,(zaD xs)[k]? = some ins∧InpF (zap xs) (zah xs xs.length) k x.r.subs ins:=by
 intro k x hx;refine ⟨zcW xs k x,?_,?_,fun j y hy => ?_⟩
 · unfold zaD
   rw [List.getElem?_mapIdx,hx]
   rfl
 · unfold zcW
   simp
 · unfold zcW at hy
   rw [l] at hy
   rcases Nat.lt_or_ge j x.r.subs.length with hl | hl
   · rw [List.getElem?_range hl] at hy
     obtain ⟨d,s,i',n,z,ds,hF,hD,hz,hnum⟩:=zeL h hs hx (E hl)
     rw [Option.map_some] at hy
     rw [hF] at hy
     simp only [Int.toNat_natCast,hnum,Option.getD_some,Option.some.injEq] at hy
     subst hy
     have hd:=(List.getElem?_eq_some_iff.1 hz).1
     have hsl:=(List.getElem?_eq_some_iff.1 hD.set).1
     have hs4:=(h.rels d z hz).count.sets
     exact ⟨d,s,by omega,by omega,hF,hnum⟩
   · rw [G (by simpa using hl)] at hy
     cases hy
theorem zin {S:StatM} {xs:List RelayX} (h:CfgF S xs):∀ t∈zaA xs (zaD xs),t.2.length≤24:=by
 intro t ht;obtain ⟨k,hk⟩:=F ht;unfold zaA at hk;rw [List.getElem?_mapIdx] at hk
 cases hx:xs[k]? with
 | none=>rw [hx] at hk;cases hk
 | some x =>
   rw [hx] at hk
   have hk2:(x.r.outputs,((zaD xs)[k]?).getD [])=t:=by simpa using hk
   have ha:(zaD xs)[k]? = some (zcW xs k x):=by
    unfold zaD
    rw [List.getElem?_mapIdx,hx]
    rfl
   rw [← hk2,ha]
   show (zcW xs k x).length≤24
   unfold zcW
   rw [D,List.length_range]
   exact (h.rels k x hx).count.subs
theorem zmd {α β:Type} (f:α→β) (p:β→Bool) (xs:List α):idx p (xs.map f)=idx (fun x=>p (f x)) xs:=by
 unfold idx;rw [List.findIdx?_map]
 rfl
theorem dev_of {xs:List RelayX} {i:Nat} {y:SubM} {d s j:Nat} {r:RelayM} {ds:ByteArray × List ByteArray} (hD:Denotes (zap xs) i y d s j r ds):idx (fun x:RelayX=>same x.r.name y.device) xs=(d:Int):=by
 have:=hD.dev;unfold zap at this;rw [zmd] at this;exact this
theorem zk8 {xs:List RelayX} {i d s j n:Nat} {y:SubM} {z:RelayX} {ds:ByteArray × List ByteArray} (hD:Denotes (zap xs) i y d s j z.r ds) (hz:xs[d]? = some z) (hn:zca (zah xs xs.length) d s=some n) (st:Int) :
 n<(zah xs xs.length).length∧(za7 st (zah xs xs.length) n)[j]? = some (bitP st d (zch z.r y.signal).toNat):=by
 obtain ⟨e,he,hr,hset⟩:=zfd hn;refine ⟨(List.getElem?_eq_some_iff.1 he).1,?_⟩
 obtain ⟨x,p,hx,hp,heq⟩:=zcP e (C he);rw [hr,hz] at hx
 cases hx
 have hsx:zcT z.r p.set=s:=by rw [← hset,heq];rfl
 have hsg:e.sigs=ds.2.map (zch z.r):=by
  rw [heq]
  show (zdZ z.r (zcT z.r p.set)).map (zch z.r)=_
  rw [hsx];unfold zdZ;rw [hD.set]
  rfl
 unfold za7;rw [he]
 show (e.sigs.map fun z=>bitP st e.relay z.toNat)[j]? = _
 rw [hsg,hr,l,l,hD.item]
 rfl
theorem zga {S:StatM} {xs:List RelayX} (h:CfgF S xs) (hs:zd2 xs) (hn:zaH (zap xs)) (st:Int) (n:Nat):(za7 st (zah xs xs.length) n).length≤24:=by
 unfold za7
 split
 · rename_i e he
   rw [D]
   exact (zgH h hs hn e (C he)).1
 · exact Nat.zero_le _
def gRun (L:List PubE) (rev:Int):List Int→Nat→PbM
 | [],n=>pubG L rev n
 | st::older,n=>(gRun L rev older n).next (za7 st L n)
theorem zdv {S:StatM} {xs:List RelayX} (h:CfgF S xs) (hs:zd2 xs) (hn:zaH (zap xs)) (hl:xs.length≤20) {rev:Int} (hr:0≤rev∧rev≤4294967295):∀ (sts:List Int) (n:Nat),n<(zah xs xs.length).length→(gRun (zah xs xs.length) rev sts n).Good sts.length
 | [],n,hl'=>by
   show (pubG (zah xs xs.length) rev n).Good 0
   have h1:=zfO h hs hl
   have he:=E hl'
   rw [zkd he]
   have h2:=zfg h _ (C he)
   exact PbM.Good.new (by omega) h2.1 h2.2 hr
 | st::older,n,hl'=>((zdv h hs hn hl hr older n hl').next (zga h hs hn st n)).1
theorem zjP {S:StatM} {xs:List RelayX} (h:CfgF S xs) (hs:zd2 xs) (hn:zaH (zap xs)) (hl:xs.length≤20) {rev:Int} (hr:0≤rev∧rev≤4294967295) (st:Int) (older:List Int) (n:Nat) (hl':n<(zah xs xs.length).length) :
 (gRun (zah xs xs.length) rev (st::older) n).started=true∧(gRun (zah xs xs.length) rev (st::older) n).vals=za7 st (zah xs xs.length) n:=
 ((zdv h hs hn hl hr older n hl').next (zga h hs hn st n)).2
theorem zlg (p:PbM) (vs:List Bool):(p.next vs).pub=p.pub:=by
 unfold PbM.next
 split
 · rfl
 · split <;> rfl
theorem zln {L:List PubE} {rev:Int} {n:Nat}:(pubG L rev n).pub=(n:Int):=by unfold pubG;split <;> rfl
theorem zib {L:List PubE} {rev:Int}:∀ (sts:List Int) (n:Nat),(gRun L rev sts n).pub=(n:Int)
 | [],_=>zln
 | _::older,n=>(zlg _ _).trans (zib older n)
theorem zmx (L:List PubE) (rev:Int) (n:Nat):zaB (pubG L rev n)=SbM.new (n:Int) rev:=by
 unfold zaB pubG
 split <;> rfl
theorem zf4 {xs:List RelayX} {i:Nat} {x:RelayX} (hx:xs[i]? = some x):(zaA xs (zaD xs))[i]? = some (x.r.outputs,zcW xs i x):=by
 have ha:(zaD xs)[i]? = some (zcW xs i x):=by
  unfold zaD;rw [List.getElem?_mapIdx,hx]
  rfl
 unfold zaA;rw [List.getElem?_mapIdx,hx]
 show some (x.r.outputs,((zaD xs)[i]?).getD [])=_
 rw [ha]
 rfl
theorem zlK {xs:List RelayX} {i k d s j n:Nat} {x:RelayX} (hl:k<x.r.subs.length) (hF:zbi (zap xs) (i:Int) (k:Int)=((d:Int),(s:Int),(j:Int),0)) (hn:zca (zah xs xs.length) d s=some n):(zcW xs i x)[k]? = some (n,j):=by
 unfold zcW;rw [l,List.getElem?_range hl,Option.map_some];rw [hF];simp only [Int.toNat_natCast,hn,Option.getD_some]
theorem zhv (xs:List RelayX) (i:Nat) (x:RelayX):(zcW xs i x).length=x.r.subs.length:=by unfold zcW;simp
theorem zlJ {xs:List RelayX} {i k n j:Nat} {x:RelayX} (hx:xs[i]? = some x) (h1:(zcW xs i x)[k]? = some (n,j)):inD (zaA xs (zaD xs)) i k=n:=by
 unfold inD;rw [zf4 hx];simp only [h1]
theorem inD_at {S:StatM} {xs:List RelayX} (h:CfgF S xs) (hs:zd2 xs) {i k:Nat} {x:RelayX} (hx:xs[i]? = some x) (hk:k<x.r.subs.length):inD (zaA xs (zaD xs)) i k<(zah xs xs.length).length:=by
 obtain ⟨d,s,j,n,z,ds,hF,hD,hz,hnum⟩:=zeL h hs hx (E hk);rw [zlJ hx (zlK (x:=x) hk hF hnum)];obtain ⟨e,he,-⟩:=zfd hnum;exact (List.getElem?_eq_some_iff.1 he).1
theorem inD_lt {S:StatM} {xs:List RelayX} (h:CfgF S xs) (hs:zd2 xs) {i n k:Nat} (hi:((zaA xs (zaD xs)).map (·.2.length))[i]? = some n) (hk:k<n):inD (zaA xs (zaD xs)) i k<(zah xs xs.length).length:=by
 cases hx:xs[i]? with
 | none =>
   have h1:(zaA xs (zaD xs)).length≤i:=by rw [zcD];exact List.getElem?_eq_none_iff.1 hx
   rw [G (by simpa using h1)] at hi
   cases hi
 | some x =>
   rw [l,zf4 hx] at hi
   have hn:(zcW xs i x).length=n:=by simpa using hi
   rw [zhv] at hn
   exact inD_at h hs hx (by omega)
def OffA (wr:World) (base:Nat) (vP vS:Value) (vs:List Value) (xs:List RelayX) (rev:Int) (sts:List Int):Prop:=
 OffS wr base vP vS vs (zah xs xs.length).length (gRun (zah xs xs.length) rev sts) ((zaA xs (zaD xs)).map (·.2.length)) (fun i k=>zaB (gRun (zah xs xs.length) rev sts (inD (zaA xs (zaD xs)) i k)))
theorem zlu {w:World} {B:Nat} {A:Option Addr} {xs:List RelayX} (h:Rws TabRr 3 w B A (zaA xs (zaD xs)).length (zaA xs (zaD xs))) (hp:0<xs.length) :
 ∃ b o,A=some ⟨b,o,none⟩∧b<B∧∀ (m:Nat) (x:RelayX),xs[m]? = some x→∃ Ao co AI cI,w.cell? ⟨b,o+m*3,none⟩=some (.slice Ao x.r.outputs.length co) ∧
  w.cell? ⟨b,o+m*3+2,none⟩=some (.slice AI x.r.subs.length cI)∧Rws StrC 1 w B Ao x.r.outputs.length x.r.outputs∧Rws (fun _ _ cs y=>cs=inC y) 2 w B AI x.r.subs.length (zcW xs m x):=by
 obtain ⟨b,o,e,hb,hr⟩:=h.2 (by rw [zcD];exact hp);refine ⟨b,o,e,hb,fun m x hx => ?_⟩
 obtain ⟨cs,-,⟨Ao,co,vS,AI,cI,rfl,-,-,h1,h2⟩,hat⟩:=hr m _ (zf4 hx);have e2:=hat 2 _ rfl;have e0:=hat 0 _ rfl;simp only [zhv] at e2 h2;exact ⟨Ao,co,AI,cI,by simpa using e0,e2,h1,h2⟩
theorem zi4 {w:World} {B:Nat} {p:StAt} {S:StatM} {A:Option Addr} {c:Nat} {xs:List RelayX} (h:ConfX w B p S A c xs) (hp:0<xs.length) :
 ∃ b o,A=some ⟨b,o,none⟩∧b<B∧∀ (m:Nat) (x:RelayX),xs[m]? = some x→∃ Ax cx,w.cell? ⟨b,o+m*53+52,none⟩=some (.slice Ax x.r.subs.length cx)∧Rws SubC 4 w B Ax x.r.subs.length x.r.subs:=by
 obtain ⟨b,o,e,hb,hr⟩:=h.rows.2 hp;refine ⟨b,o,e,hb,fun m x hx => ?_⟩
 obtain ⟨cs,-,hR,hat⟩:=hr m _ hx;obtain ⟨c52,h52,Ax,cx,hc,-,-,hs⟩:=hR.base.subs
 cases hc
 exact ⟨Ax,cx,hat 52 _ h52,hs⟩
theorem zlj {w:World} {base:Nat} {vP:Value} {AS:Option Addr} {N cS:Nat} {vs:List Value} {xs:List RelayX} {rev:Int} {sts:List Int} (h:OffA w base vP (.slice AS N cS) vs xs rev sts) (hl:vs.length=xs.length) (hp:0<xs.length) :
 ∃ g,AS=some ⟨g,0,none⟩∧g<w.heap.size∧∀ (m:Nat) (x:RelayX),xs[m]? = some x→∃ Av cv,w.cell? ⟨g,m,none⟩=some (.slice Av x.r.subs.length cv) ∧
  ∀ k,k<x.r.subs.length→∃ gv Ax cx,Av=some ⟨gv,0,none⟩∧gv<w.heap.size ∧
   (∀ (j:Nat) (u:Value),((zaB (gRun (zah xs xs.length) rev sts (inD (zaA xs (zaD xs)) m k))).cells Ax cx)[j]? = some u→w.cell? ⟨gv,k*9+j,none⟩=some u) ∧
   Rws ValR 6 w w.heap.size Ax (zaB (gRun (zah xs xs.length) rev sts (inD (zaA xs (zaD xs)) m k))).vals.length (zaB (gRun (zah xs xs.length) rev sts (inD (zaA xs (zaD xs)) m k))).vals:=by
 obtain ⟨g,cap,v,n,heS,hbS,hvi,hni,hcS⟩:=h.outerAt (i:=0) (by omega);injection heS with hA
 refine ⟨g,hA,hbS.2,fun m x hx => ?_⟩
 have hmx:=(List.getElem?_eq_some_iff.1 hx).1;obtain ⟨g2,cap2,v2,n2,heS2,-,hvi2,hni2,hcS2⟩:=h.outerAt (i:=m) (by omega);injection heS2 with hA2
 rw [hA] at hA2;injection hA2 with hA2
 injection hA2 with hA2
 subst hA2
 have hn2:n2=x.r.subs.length:=by
  rw [l,zf4 hx] at hni2;have:(zcW xs m x).length=n2:=by simpa using hni2
  rw [zhv] at this;exact this.symm
 subst hn2;have hsub:=h.subs m v2 _ hvi2 hni2
 obtain ⟨Av,cv,rfl,-,-⟩:∃ A c,v2 = .slice A x.r.subs.length c∧x.r.subs.length≤c∧c≤maxLen:=by
  obtain ⟨css,h1,-⟩:=hsub;exact zac h1
 refine ⟨Av,cv,hcS2,fun k hk => ?_⟩
 obtain ⟨gv,cap3,cs,hve,hgb,hcl,⟨Ax,cx,rfl,-,hrv⟩,hcells,-⟩:=hsub.at_ hk;injection hve with hve1
 exact ⟨gv,Ax,cx,hve1,hgb.2,hcells,zgV hrv (fun b q=>q.1)⟩
theorem zjV {S:StatM} {xs:List RelayX} (h:CfgF S xs) (hs:zd2 xs) (hn:zaH (zap xs)) (hl:xs.length≤20) {rev:Int} (hr:0≤rev∧rev≤4294967295) {m k:Nat} {x:RelayX} (hx:xs[m]? = some x) (hk:k<x.r.subs.length) (u:Int) (older:List Int) :
 ∃ (y:SubM) (d j:Nat) (z:RelayX) (n o:Nat),x.r.subs[k]? = some y∧xs[d]? = some z∧idx (fun x:RelayX=>same x.r.name y.device) xs=(d:Int)∧(zcW xs m x)[k]? = some (n,j)∧inD (zaA xs (zaD xs)) m k=n ∧
  idx (fun s=>same s y.signal) z.r.outputs=(o:Int)∧o≤36∧z.r.outputs.length≤36∧j≤24 ∧
  (zaB (gRun (zah xs xs.length) rev (u::older) n)).known=true∧1≤(zaB (gRun (zah xs xs.length) rev (u::older) n)).left∧(zaB (gRun (zah xs xs.length) rev (u::older) n)).test=false∧(zaB (gRun (zah xs xs.length) rev (u::older) n)).lost=0 ∧
  (zaB (gRun (zah xs xs.length) rev (u::older) n)).vals[j]? = some (bitP u d o):=by
 have hy:=E hk;obtain ⟨d,s,j,n,z,ds,hF,hD,hz,hnum⟩:=zeL h hs hx hy;have h1:=zlK (x:=x) hk hF hnum;obtain ⟨hnl,hit⟩:=zk8 hD hz hnum u;have hg:=zdv h hs hn hl hr (u::older) n hnl;obtain ⟨hst,hvv⟩:=zjP h hs hn hl hr u older n hnl;obtain ⟨r1,r2,r3,r4,r5⟩:=zky (s:=older.length) hg hst;have h0:0≤zch z.r x.r.subs[k].signal:=zfe (zih h hz).1 hD.set hD.item;have h2:=(ze9 (fun s=>same s x.r.subs[k].signal) z.r.outputs).2
 have h3:z.r.outputs.length≤36:=by
  have:=zbS z.r.kind;have:=(hn.2 z.r (C (zcR hz))).rules;simp only [RelayM.outputs,H,D];omega
 have h4:zch z.r x.r.subs[k].signal=idx (fun s=>same s x.r.subs[k].signal) z.r.outputs:=rfl;refine ⟨x.r.subs[k],d,j,z,n,(zch z.r x.r.subs[k].signal).toNat,hy,hz,dev_of hD,h1,zlJ hx h1,by rw [← h4];omega,by omega,h3,?_,r1,r2,r3,r4,?_⟩
 · have h5:=zga h hs hn u n
   have h6:=(List.getElem?_eq_some_iff.1 hit).1
   omega
 · rw [r5,hvv]
   exact hit
end Go.Proofs.YtjkimieapfbhbaaGreatDoor
