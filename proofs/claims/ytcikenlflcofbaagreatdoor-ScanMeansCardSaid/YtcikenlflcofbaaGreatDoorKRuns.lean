/-
  The sanity check of the laws of layer 27, and the sizes that its laws ask for.
-/
import Derived.Test.YtcikenlflcofbaaGreatDoorCmp
import Derived.Test.YtcikenlflcofbaaGreatDoorVfJ
import Derived.Test.YtcikenlflcofbaaGreatDoorKStq
namespace Go.Proofs.YtcikenlflcofbaaGreatDoor
open Go.RowKit
def rlL (r:Rl):List Value:=[nmV r.nm,nmV r.text]
theorem zjw {α:Type} {R:World→(Nat→Prop)→List Value→α→Prop} {size:Nat} (w:World) (e:TypeId) (xs:List α) (f:α→List Value) (cs:Array Value) (hcs:cs.toList=xs.flatMap f) (hl:cs.size=xs.length*size) (hm:xs.length≤maxLen) (hf:∀ x∈xs,(f x).length=size)
    (hR:∀ x∈xs,R (w.alloc (.cells cs e)) (fun b=>b<(w.alloc (.cells cs e)).heap.size) (f x) x):Rw R size (w.alloc (.cells cs e)) (fun b=>b<(w.alloc (.cells cs e)).heap.size) (some ⟨w.heap.size,0,none⟩) xs.length xs:=by
  have h:=World.ownsRow_lit (e:=e) (size:=size) w cs xs.length (base:=w.heap.size) (Nat.le_refl _) hm hl;rw [hcs] at h;exact Rw.of_own h rfl hf hR (fun b _ hb=>hb)
theorem RetCmp.of {rs:List Rl} {ins:List Sg} {p:Pg} {a er:Int} {w w':World} {e:Ending} (hc:cmpP rs ins=(p,a,er)) (h:RetCmp rs ins w e w') :
    ∃ A1 c1 A2 c2 A3 c3 A4 c4,e = .returned (.tuple #[.agg #[.slice A1 p.ins.length c1,.slice A2 p.rls.length c2,.slice A3 p.cells.length c3,.slice A4 p.code.length c4],.int .i64 a,.int .i64 er])∧PgI w' (New w w') p ⟨A1,c1,A2,c2,A3,c3,A4,c4⟩∧Below w.heap.size w w':=by
  obtain ⟨⟨A1,c1,A2,c2,A3,c3,A4,c4⟩,he,hp,hb⟩:=h;rw [hc] at he hp;exact ⟨A1,c1,A2,c2,A3,c3,A4,c4,he,hp,hb⟩
end Go.Proofs.YtcikenlflcofbaaGreatDoor
set_option maxRecDepth 100000
set_option maxHeartbeats 8000000
namespace Go.Proofs.YtcikenlflcofbaaGreatDoor
open Go.RowKit
def rRl (tx:List UInt8):List Rl:=[⟨[114],tx⟩]
def rIn:List Sg:=[⟨[97],1⟩]
def one (l:List Int):List (List Int):=l.map fun x=>[x]
def RetRs (vs:List Int) (w:World) (e:Ending) (w':World):Prop:=
  ∃ A c,e = .returned (.tuple #[.slice A vs.length c,.bool true])∧vs.length≤c∧c≤maxLen∧Rw IaC 1 w' (New w w') A vs.length vs∧Below w.heap.size w w'
def RsA (W:World) (base:Nat) (xa:List Int) (g:Nat) (v9 v29:Value) (wr:World):Prop:=
  ∃ (k:Nat) (hs:List Nat),k≤xa.length∧xa.length-k<g∧v29 = .int .i64 (k:Int)∧LoW wr base v9 1 hs (one (xa.take k))∧Below base W wr
def RsB (W:World) (base:Nat) (vs:List Int) (g:Nat) (v14 v47:Value) (wr:World):Prop:=
  ∃ k:Nat,k≤vs.length∧vs.length-k<g∧v47 = .int .i64 (k:Int)∧wr.ownsRow base 3 1 v14 k ((vs.take k).map (Value.int .i64))∧Below base W wr
theorem zj9 {xa:List Int} {k:Nat} {x:Int} (h:xa[k]? = some x):one (xa.take (k+1))=one (xa.take k)++[[x]]:=by
  unfold one;rw [List.take_add_one,h];simp
theorem zea (l:List Int):(one l).length=l.length:=by unfold one;rw [List.length_map]
theorem zky (tx:List UInt8) (xa vs:List Int) (A:Option Addr) (c:Nat) {p:Pg} (w:World) (hw:Lw w) (htx:tx.length≤maxLen) (hr:Rw IaC 1 w (Old w) A xa.length xa) (hal:xa.length≤1000) (hcp:cmpP (rRl tx) rIn=(p,0,0))
    (hrun:runS p (one xa)=(one vs,0)) (hvl:vs.length=xa.length) :
    Calls Tryz.prog 18 #[.string ⟨tx.toArray⟩,.slice A xa.length c] w (RetRs vs w):=by
  have hb1:=zaa w (Obj.cells #[nmV [114],nmV tx] 46);have hb2:=zaa (w.alloc (Obj.cells #[nmV [114],nmV tx] 46)) (Obj.cells #[nmV [97],.int .i64 1] 40)
  have hr1:=zjw (R:=RlC) (size:=2) w 46 (rRl tx) rlL #[nmV [114],nmV tx] rfl rfl (show (1:Nat)≤maxLen by decide) (fun _ _=>rfl) (fun x hx=>by
    have:x=⟨[114],tx⟩:=List.mem_singleton.1 hx;subst this;exact ⟨rfl,(show (1:Nat)≤maxLen by decide),htx⟩)
  have hr2:=zjw (R:=SgC) (size:=2) (w.alloc (Obj.cells #[nmV [114],nmV tx] 46)) 40 rIn sgL #[nmV [97],.int .i64 1] rfl rfl (by decide) (fun _ _=>rfl) (fun x hx=>by
    have:x=⟨[97],1⟩:=List.mem_singleton.1 hx;subst this;exact ⟨rfl,by decide,by decide⟩)
  have hr1':=hr1.mono RlC.mono (fun b q=>Nat.lt_of_lt_of_le q hb2.size) (zab hb2 fun b q=>q);have HB:=Hi (zac hb1 hb2 hb1.size);have hc:=zd2 _ 1 (rRl tx) _ 1 rIn _ (hw.below HB.out) (Nat.le_refl _) (by decide) hr1' (Nat.le_refl _) (by decide) hr2;rw [World.size_alloc] at hc;have HC:=Hi hc;have hsz:=HB.out.size;have HR:=Hi hr;have HCP:=Hi hcp;have HRN:=Hi hrun;have HVL:=Hi hvl;clear hc hb1 hb2 hr1 hr2 hr1' hr hcp hrun hvl hw htx;go_enter Tryz.func18,Tryz.ntmps18;go_wp2_with fail
  generalize (w.alloc (Obj.cells #[nmV [114],nmV tx] 46)).alloc (Obj.cells #[nmV [97],.int .i64 1] 40)=W at *;refine HC.out.mono ?_
  intro e w1 hret;obtain ⟨A1,c1,A2,c2,A3,c3,A4,c4,rfl,hpg,hb3⟩:=hret.of HCP.out;have hbx:=zaa w1 (Obj.cells (pgC p ⟨A1,c1,A2,c2,A3,c3,A4,c4⟩) 35);have hpx:=heap_alloc_new w1 (Obj.cells (pgC p ⟨A1,c1,A2,c2,A3,c3,A4,c4⟩) 35);have hpg2:PgI (w1.alloc (Obj.cells (pgC p ⟨A1,c1,A2,c2,A3,c3,A4,c4⟩) 35)) (Old w1) p ⟨A1,c1,A2,c2,A3,c3,A4,c4⟩:=hpg.mono (fun b q=>q.2) (zab hbx fun b q=>q.2);have hb4:=HB.out.trans ((zac hb3 hbx hb3.size).mono hsz);have hs1:=World.size_alloc w1 (Obj.cells (pgC p ⟨A1,c1,A2,c2,A3,c3,A4,c4⟩) 35);go_upto_region 2 with fail
  generalize w1.alloc (Obj.cells (pgC p ⟨A1,c1,A2,c2,A3,c3,A4,c4⟩) 35)=W2 at *;have HPX:=Hi hpx;have HPG:=Hi hpg2;have HB4:=Hi hb4;have HS1:=Hi hs1;have hwl:w.heap.size≤w1.heap.size:=Nat.le_trans hsz hb3.size;obtain ⟨ti,hti,hz0,hz1,hz2⟩:=info_parts zkW;obtain ⟨tn,htn,hn0,hn1,hn2⟩:=info_parts zdD;have HLO:Hid (LoW W2 W2.heap.size (.slice Option.none 0 0) 1 [] []):=Hi ⟨rfl,World.ownsRow_nil _ _ _ _,fun i g x h=>by simp at h⟩;clear hret hpg hbx hpx hpg2 hb4 hs1 hb3 HC;go_wp2;go_loopg [9,29] (xa.length+1) (fun g v9 v29 wr=>RsA W2 W2.heap.size xa g v9 v29 wr)
  case atStart=>exact ⟨0,[],Nat.zero_le _,by omega,rfl,HLO.out,Below.refl _ _⟩
  case round =>
    clear HLO;obtain ⟨k,hs,hk,hgk,rfl,hlo,hbel⟩:=hrel;have hszr:=hbel.size;have hkl:(one (xa.take k)).length=k:=by rw [zea,List.length_take];omega
    have HKL:=Hi hkl;obtain ⟨A9,c9,rfl,hc9,hm9⟩:=zag hlo.row
    by_cases hlt:k<xa.length
    case pos =>
      have hbw:=HB4.out.trans (hbel.mono HB4.out.size);obtain ⟨b,o,x,hA,hSb,hx,y0⟩:=iaAt (HR.out.mono IaC.mono (fun _ q=>q) (zab hbw fun _ q=>q)) hlt;subst hA;have hbk:b<wr.heap.size:=by have q':b<w.heap.size:=hSb;have:=hbw.size;omega
      have HTK:=Hi (zj9 hx);have hbv:=zaa wr (Obj.cells #[.int .i64 x] 3);have hva:VaW (wr.alloc (Obj.cells #[.int .i64 x] 3)) W2.heap.size wr.heap.size 1 1 [x]:=zkG (heap_alloc_new wr _) rfl rfl (by decide) hszr;have hlo1:=hlo.keep (w':=wr.alloc (Obj.cells #[.int .i64 x] 3)) (fun z _ h2=>hbv.block z h2);have how:=hlo1.row.alloc (Obj.cells #[.slice (some ⟨wr.heap.size,0,none⟩) 1 1] 38);have hsr:=zaL (wr.alloc (Obj.cells #[.int .i64 x] 3)) [.slice (some ⟨wr.heap.size,0,none⟩) 1 1] 38 1 1 rfl;rw [World.size_alloc] at hsr;have HOW:=Hi how;have HSR:=Hi hsr;have hkl':=hkl;rw [hkl] at hc9;have HM1:=Hi (show (one (xa.take k)).length+1≤maxLen by rw [hkl];unfold maxLen;omega);have HM2:=Hi (show ((one (xa.take k)).length+1)*24≤140737488355328 by rw [hkl];omega);have HBS:=Hi (show W2.heap.size≤((wr.alloc (Obj.cells #[.int .i64 x] 3)).alloc (Obj.cells #[.slice (some ⟨wr.heap.size,0,none⟩) 1 1] 38)).heap.size by simp only [World.size_alloc];omega);have HVA:=Hi hva;have HLO1:=Hi hlo1;have HLTR:=Hi hlo.row.lt;have HBQ:=Hi (hbel.alloc hszr (Obj.cells #[.int .i64 x] 3));clear hx hSb hbw hbv hva hlo1 how hsr hlo hbel hkl hkl';go_upto_region 7 with (at_builtin;refine zaj (o:=⟨some 37,_,_,_,_,_⟩) (w:=(wr.alloc (Obj.cells #[.int .i64 x] 3)).alloc (Obj.cells #[.slice (some ⟨wr.heap.size,0,none⟩) 1 1] 38)) _ _ 24 rfl rfl Tryz.underlying24 hti hz0 hz1 hz2 rfl (by decide) rfl HOW.out rfl HSR.out (by intro u hu;rw [List.mem_singleton.1 hu];rfl) HM1.out HM2.out HBS.out ?_;intro v6 w6 hown6 hg6 hv6;have HO6:=Hi hown6;have HG6:=Hi hg6;have HV6:=Hi hv6;obtain ⟨A6,c6,hv6e,-,-⟩:=zag hown6;clear hown6 hg6 hv6;subst hv6e)
      have hpush:=HLO1.out.push HVA.out (fun q=>by have:=(HLTR.out _ q).2;omega) hszr _ HG6.out HO6.out HV6.out;have hb6:=(HBQ.out.alloc (by rw [World.size_alloc];omega) (Obj.cells #[.slice (some ⟨wr.heap.size,0,none⟩) 1 1] 38)).grown HG6.out (by simp only [World.size_alloc];omega) (fun j hj=>(HLTR.out j hj).1);have HPU:=Hi hpush;have HB6:=Hi hb6;clear hpush hb6;go_wp2;go_roundg (xa.length-k)
      case measure=>omega
      case rel=>exact ⟨k+1,hs++[wr.heap.size],by omega,by omega,by go_num,by rw [HTK.out];exact HPU.out,HB6.out⟩
    obtain rfl:k=xa.length:=by omega
    rw [List.take_length] at hlo hkl;have hbw:=HB4.out.trans (hbel.mono HB4.out.size);have hs1:=HS1.out;have hpx:=(hbel.block w1.heap.size (by omega)).trans HPX.out;have hpg:PgI wr (Old wr) p ⟨A1,c1,A2,c2,A3,c3,A4,c4⟩:=HPG.out.mono (fun b q=>by have q':b<w1.heap.size:=q;show b<wr.heap.size;omega) (zab hbel fun b q=>by have q':b<w1.heap.size:=q;omega)
    have hrw:Rw LsC 1 wr (Old wr) A9 (one xa).length (one xa):=by
      exact hlo.rw (by decide) (fun b _ h2=>h2)
    have hrn:=zih (c:=c9) hpg hrw (by rw [zea];omega);rw [zea] at hrn;have e9:(one (xa.take xa.length)).length=xa.length:=by rw [List.take_length,zea]
    rw [e9];have HRU:=Hi hrn;have q0:wr.cell? ⟨w1.heap.size,0,none⟩=some (.slice A1 p.ins.length c1):=by simp [World.cell?,hpx]
    have q1:wr.cell? ⟨w1.heap.size,1,none⟩=some (.slice A2 p.rls.length c2):=by simp [World.cell?,hpx]
    have q2:wr.cell? ⟨w1.heap.size,2,none⟩=some (.slice A3 p.cells.length c3):=by simp [World.cell?,hpx]
    have q3:wr.cell? ⟨w1.heap.size,3,none⟩=some (.slice A4 p.code.length c4):=by simp [World.cell?,hpx]
    have HBW:=Hi hbw;clear hlo hkl hbel hpx hpg hrw hrn e9 hbw hlt HKL;go_wp2_with fail
    refine HRU.out.mono ?_
    rintro e w5 ⟨A5,c5,rfl,hc5,hm5,hr5,hb5⟩
    have hRS:=HRN.out;have hl5:(runS p (one xa)).1.length=vs.length:=by rw [hRS];exact zea vs
    have he5:(runS p (one xa)).2=0:=by rw [hRS]
    rw [hl5] at hc5 hr5 ⊢;rw [he5];have hr5':Rw LsC 1 w5 (New wr w5) A5 vs.length (one vs):=by rw [hRS] at hr5;exact hr5
    have HR5:=Hi hr5';have HB5:=Hi (zac HBW.out hb5 HBW.out.size);have hvl1:vs.length≤1000:=by have:=HVL.out;omega
    clear hr5 hr5' hl5 he5 hRS hb5 q0 q1 q2 q3 HRU;unfold maxLen at hm5;go_wp2;go_loopg [14,47] (vs.length+1) (fun g v14 v47 wq=>RsB w5 w5.heap.size vs g v14 v47 wq)
    case atStart=>exact ⟨0,Nat.zero_le _,by omega,rfl,World.ownsRow_nil _ _ _ _,Below.refl _ _⟩
    case round =>
      rename World=>wq
      obtain ⟨j,hj,hgj,rfl,hown,hbq⟩:=hrel;obtain ⟨A6,c6,rfl,hc6,hm6⟩:=zag hown;have hsq:=hbq.size
      by_cases hlt:j<vs.length
      case neg =>
        obtain rfl:j=vs.length:=by omega
        rw [List.take_length] at hown
        have HRES:Hid (RetRs vs w (.returned (.tuple #[.slice A6 vs.length c6,.bool true])) wq):=
          Hi ⟨A6,c6,rfl,hc6,hm6,Rw.of_own (f:=fun z=>[Value.int .i64 z]) (base:=w5.heap.size) (e := 3) (c:=c6) (by rw [← List.map_eq_flatMap];exact hown) rfl (fun _ _=>rfl) (fun _ _=>rfl) (fun b h1 h2=>⟨by have:=HB5.out.size;omega,h2⟩),HB5.out.trans (hbq.mono HB5.out.size)⟩
        have hvi:(vs.length:Int)=(xa.length:Int):=by have:=HVL.out;omega
        have HVI:=Hi hvi;have hvb:((vs.length:Int) == (xa.length:Int))=true:=by simp;have:=HVL.out;omega
        clear hown hbq hlt hvi;go_wp2
        go_ret2
        exact HRES.out
      obtain ⟨b,o,x,Ax,cx,hA,hSb,hx,hxc,hxm,hxr,y0⟩:=lsAt (HR5.out.mono LsC.mono (fun _ q=>q) (zab hbq fun _ q=>q.2)) hlt;subst hA
      have hxv:∃ z,vs[j]? = some z∧x=[z]:=by
        unfold one at hx;rw [List.getElem?_map] at hx;obtain ⟨z,hz,rfl⟩:=Option.map_eq_some_iff.1 hx;exact ⟨z,hz,rfl⟩
      obtain ⟨z,hz,rfl⟩:=hxv;obtain ⟨b2,o2,z2,hA2,hSb2,hz2,u0⟩:=iaAt hxr (show 0<1 by decide);subst hA2;have hz2':z=z2:=by simpa using hz2
      subst hz2';rw [Nat.add_zero] at u0;have hbk:b<wq.heap.size:=by have:=hSb.2;omega
      have hbk2:b2<wq.heap.size:=by have:=hSb2.2;omega
      have htk:(vs.take (j+1)).map (Value.int .i64)=(vs.take j).map (Value.int .i64)++[.int .i64 z]:=by
        rw [List.take_add_one,hz];simp
      have HTK:=Hi htk;have HOW:=Hi (hown.alloc (Obj.cells #[.int .i64 z] 3));have HBQ:=Hi (hbq.alloc hsq (Obj.cells #[.int .i64 z] 3));have HSR:=Hi (zaL wq [.int .i64 z] 3 1 1 rfl);clear hown hbq hx hxr hz hz2 htk hSb hSb2;simp only [List.length_singleton] at y0;go_upto_region 16 with (at_builtin;refine za4 (o:=⟨some 59,_,_,_,_,_⟩) (w:=wq.alloc (Obj.cells #[.int .i64 z] 3)) _ _ 38 rfl rfl Tryz.underlying38 htn hn0 hn1 hn2 rfl (by decide) rfl HOW.out HBQ.out rfl HSR.out (by intro u hu;rw [List.mem_singleton.1 hu];rfl) (by unfold maxLen;omega) (by omega) (by rw [World.size_alloc];omega) ?_;intro v7 w7 hown7 hb7 hs7;have HO7:=Hi hown7;have HB7:=Hi hb7;obtain ⟨A7,c7,hv7,-,-⟩:=zag hown7;clear hown7 hb7 hs7;subst hv7)
      go_wp2;go_roundg (vs.length-j)
      case measure=>omega
      case rel=>exact ⟨j+1,by omega,by omega,by go_num,by rw [HTK.out];exact HO7.out,HB7.out⟩
end Go.Proofs.YtcikenlflcofbaaGreatDoor
