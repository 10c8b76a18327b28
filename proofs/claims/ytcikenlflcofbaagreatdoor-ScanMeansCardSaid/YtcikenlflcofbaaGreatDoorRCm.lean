/-
  The reference's depth and Compile: how many cells the program has that it returns.
-/
import Derived.Test.YtcikenlflcofbaaGreatDoorREm
import Derived.Test.YtcikenlflcofbaaGreatDoorRulR
set_option maxRecDepth 100000
set_option maxHeartbeats 8000000
namespace Go.Proofs.YtcikenlflcofbaaGreatDoor
open Go.RowKit
def zlb (w:World) (e:Ending) (w':World):Prop:=∃ z:Int,e = .returned (.int .i64 z)∧Below w.heap.size w w'
def DpL (W:World) (n:Nat) (g:Nat) (v3 v4 v10:Value) (wr:World):Prop:=
  ∃ (k:Nat) (z3 z4:Int),k≤n∧n-k<g∧v10 = .int .i64 (k:Int)∧v3 = .int .i64 z3∧v4 = .int .i64 z4∧Below W.heap.size W wr
theorem zjl (s1 s2 s3:Value) (A:Option Addr) (c:Nat) (code:List Ins) (w:World) (hm:code.length≤100000) (hr:Rw InC 2 w (Old w) A code.length code) :
    Calls Tryz.prog 28 #[.agg #[s1,s2,s3,.slice A code.length c]] w (zlb w):=by
  have hn0:=heap_alloc_new w (Obj.cells #[s1,s2,s3,.slice A code.length c] 35);have hb0:=zaa w (Obj.cells #[s1,s2,s3,.slice A code.length c] 35);have x3:=(zaS hn0).2.2.2;have hxl:=(Array.getElem?_eq_some_iff.1 hn0).1;have HB0:=Hi hb0;have HR:=Hi hr;have HOP:=Hi (fun op W=>ze9 op W);clear hn0 hb0 hr;go_enter Tryz.func28,Tryz.ntmps28;go_upto_region 2 with fail
  generalize w.alloc (Obj.cells #[s1,s2,s3,.slice A code.length c] 35)=W0 at *;go_wp2;clear x3 hxl;go_loopg [3,4,10] (code.length+1) (fun g v3 v4 v10 wr=>DpL W0 code.length g v3 v4 v10 wr)
  case atStart=>exact ⟨0,0,0,Nat.zero_le _,by omega,rfl,rfl,rfl,Below.refl _ _⟩
  case round =>
    obtain ⟨k,z3,z4,hk,hg,rfl,rfl,rfl,hbel⟩:=hrel;have hbw:=zac HB0.out hbel HB0.out.size;have HBW:=Hi hbw;have HBR:=Hi hbel
    by_cases hlt:k<code.length
    case neg =>
      clear hbel hbw;go_wp2;go_ret
      exact ⟨z4,rfl,HBW.out⟩
    obtain ⟨b,o,i,hA,hSb,hx,y0,y1⟩:=inAt (HR.out.mono InC.mono (fun _ q=>q) (zab hbw fun _ q=>q)) hlt;subst hA;obtain ⟨op,a⟩:=i;dsimp only at y0 y1;have hbk:b<wr.heap.size:=Nat.lt_of_lt_of_le hSb hbw.size;have HBX:=Hi (zaa wr (Obj.cells #[.int .i64 op,.int .i64 a] 76));clear hbel hbw hx hSb
    by_cases h32:op=32
    · have hne:(op != 32)=false:=by simp [h32]
      clear h32
      go_wp2_with (refine (HOP.out _ _).mono ?_;rintro e5 w5 ⟨rfl,rfl⟩)
      go_roundg (code.length-k)
      case measure=>omega
      case rel=>exact ⟨k+1,_,_,by omega,by omega,by go_num,rfl,rfl,zac HBR.out HBX.out HBR.out.size⟩
    · have hne:(op != 32)=true:=by simp [h32]
      clear h32
      go_wp2_with (refine (HOP.out _ _).mono ?_;rintro e5 w5 ⟨rfl,rfl⟩)
      go_roundg (code.length-k)
      case measure=>omega
      case rel=>exact ⟨k+1,_,_,by omega,by omega,by go_num,rfl,rfl,zac HBR.out HBX.out HBR.out.size⟩
theorem zfw (ins rls:List (List UInt8)):∀ (l:List Ex) (i:Int) (m:Em),(zaM ins rls l i m).code.length=m.code.length+((cntL (cntG 16) l).1+l.length)∧(zaM ins rls l i m).cells.length=m.cells.length+(cntL (cntG 16) l).2
  | [],_,_=>⟨rfl,rfl⟩
  | x::l,i,m=>by
    have h:=zfw ins rls l (i+1) (addE (zat ins rls 16 x m) 32 i);obtain ⟨e1,e2⟩:=zgT ins rls 16 m x;have ha:(addE (zat ins rls 16 x m) 32 i).code.length=(zat ins rls 16 x m).code.length+1:=by unfold addE;simp
    have hb:(addE (zat ins rls 16 x m) 32 i).cells=(zat ins rls 16 x m).cells:=rfl;have hr:zaM ins rls (x::l) i m=zaM ins rls l (i+1) (addE (zat ins rls 16 x m) 32 i):=rfl;rw [hr,h.1,h.2,ha,hb,e1,e2];have hc1:(cntL (cntG 16) (x::l)).1=(cntG 16 x).1+(cntL (cntG 16) l).1:=rfl;have hc2:(cntL (cntG 16) (x::l)).2=(cntG 16 x).2+(cntL (cntG 16) l).2:=rfl;rw [hc1,hc2,List.length_cons];omega
theorem zgp {f:Ex→Nat × Nat} (h:∀ x,(f x).2≤(f x).1):∀ l:List Ex,(cntL f l).2≤(cntL f l).1
  | []=>Nat.le_refl _
  | x::l=>by
    have h1:=h x;have h2:=zgp h l
    show (f x).2+(cntL f l).2≤(f x).1+(cntL f l).1
    omega
theorem ziz:∀ (d:Nat) (x:Ex),(cntG d x).2≤(cntG d x).1
  | 0,_=>Nat.le_refl _
  | d+1,.mk op n nm ks=>by
    have h:=zgp (ziz d) ks
    show (cntL (cntG d) ks).2+(if zaG op then 1 else 0)≤(cntL (cntG d) ks).1+1
    split <;> omega
def RetC7 (rs:List Rl) (ins:List Sg) (w:World) (e:Ending) (w':World):Prop:=
  ∃ (A1 A2 A3 A4:Option Addr) (n1 n2 n3 n4 c1 c2 c3 c4:Nat) (a er:Int),e = .returned (.tuple #[.agg #[.slice A1 n1 c1,.slice A2 n2 c2,.slice A3 n3 c3,.slice A4 n4 c4],.int .i64 a,.int .i64 er]) ∧
    (er=0→n3=(emP rs ins (rulP rs ins).1).cells.length)∧Below w.heap.size w w'
theorem RetC7.none {rs:List Rl} {ins:List Sg} {w w':World} {a er:Int} (he:er≠0) (hb:Below w.heap.size w w') :
    RetC7 rs ins w (.returned (.tuple #[.agg #[.slice Option.none 0 0,.slice Option.none 0 0,.slice Option.none 0 0,.slice Option.none 0 0],.int .i64 a,.int .i64 er])) w' :=
  ⟨Option.none,Option.none,Option.none,Option.none,0,0,0,0,0,0,0,0,a,er,rfl,fun q=>absurd q he,hb⟩
theorem zc1 {w W:World} (h:Below w.heap.size w W) (x y z u:Value):Below w.heap.size w ((((W.setCell ⟨w.heap.size,0,none⟩ x).setCell ⟨w.heap.size,1,none⟩ y).setCell ⟨w.heap.size,2,none⟩ z).setCell ⟨w.heap.size,3,none⟩ u):=
  zba (zba (zba (zba h (Nat.le_refl _) (Nat.le_refl _) 0 x) (Nat.le_refl _) (Nat.le_refl _) 1 y) (Nat.le_refl _) (Nat.le_refl _) 2 z) (Nat.le_refl _) (Nat.le_refl _) 3 u
def CnL (W:World) (nP:Nat) (s1:Value) (rs:List Rl) (g:Nat) (v33:Value) (wr:World):Prop:=
  ∃ (k:Nat) (vR:Value),k≤rs.length∧rs.length-k<g∧v33 = .int .i64 (k:Int)∧wr.heap[nP]? = some (.cells #[s1,vR,.slice Option.none 0 0,.slice Option.none 0 0] 35 (0,0)) ∧
    wr.ownsRow (nP+1) 9 1 vR k ((rs.take k).map fun r=>nmV r.nm)∧KB (fun g=>nP≤g) W wr∧nP<wr.heap.size
def CeL (W:World) (nP E:Nat) (s1 s2:Value) (xs:List Ex) (Ta Tb g:Nat) (v47:Value) (wr:World):Prop:=
  ∃ (k:Nat) (v3 v4:Value) (a b:Nat),k≤xs.length∧xs.length-k<g∧v47 = .int .i64 (k:Int)∧a+(cntL (cntG 16) (xs.drop k)).2=Ta∧b+((cntL (cntG 16) (xs.drop k)).1+(xs.drop k).length)=Tb ∧
    wr.heap[nP]? = some (.cells #[s1,s2,v3,v4] 35 (0,0))∧EmS wr E v3 v4 a b∧KB (fun g=>g=nP∨E≤g) W wr
theorem EmS.push {wz w6:World} {E:Nat} {v3 v4 v6:Value} {a b:Nat} {o:Obj} (h:EmS wz E v3 v4 a b) {l:List Ins} (hl:l.length=b) (i:Ins) (ho:w6.ownsRow E 76 2 v6 (b+1) (l.flatMap insC++insC i)) (hg:(wz.alloc o).grownBy w6 v4.ownBlock) (hv:v6.ownBlock=v4.ownBlock∨v6.ownBlock=some (wz.alloc o).heap.size):EmS w6 E v3 v6 a (b+1):=by
  have hz:=hg.size;rw [World.size_alloc] at hz hv;obtain ⟨l3,e3,o3⟩:=h.o3;refine ⟨by have:=h.le;omega,⟨l3,e3,zam o3 (fun g e hgs=>(hg.block g (by rw [World.size_alloc];omega) (fun q=>h.apart g e q.symm)).trans (Lib.alloc_old wz o g hgs))⟩,⟨l++[i],by simp [hl],by simpa using ho⟩,fun g e q => ?_⟩
  rcases hv with e' | e'
  · exact h.apart g e (e'.symm.trans q)
  · have:=(h.lt3 e).2
    rw [e'] at q
    injection q with q
    omega
theorem zf5 (A:Option Addr) (c:Nat) (rs:List Rl) (A':Option Addr) (c':Nat) (ins:List Sg) (w:World) (hr:Rw RlC 2 w (Old w) A rs.length rs)
    (hc':ins.length≤c') (hm':c'≤maxLen) (hr':Rw SgC 2 w (Old w) A' ins.length ins) :
    Calls Tryz.prog 9 #[.slice A rs.length c,.slice A' ins.length c'] w (RetC7 rs ins w):=by
  have hb0:=zaa w (Obj.cells #[.slice Option.none 0 0,.slice Option.none 0 0,.slice Option.none 0 0,.slice Option.none 0 0] 35);have hn0:=heap_alloc_new w (Obj.cells #[.slice Option.none 0 0,.slice Option.none 0 0,.slice Option.none 0 0,.slice Option.none 0 0] 35);have hk0:=zab (S:=Old w) hb0 (fun _ q=>q);have HRUL:=Hi (zeK A c rs A' c' ins (w.alloc (Obj.cells #[.slice Option.none 0 0,.slice Option.none 0 0,.slice Option.none 0 0,.slice Option.none 0 0] 35)) (hr.mono RlC.mono (fun b q=>Nat.lt_of_lt_of_le q hb0.size) hk0) hc' hm' (hr'.mono SgC.mono (fun b q=>Nat.lt_of_lt_of_le q hb0.size) hk0));have HR:=Hi hr;have HRI:=Hi hr';have HB0:=Hi hb0;have HN0:=Hi hn0;have HS0:=Hi (World.size_alloc w (Obj.cells #[.slice Option.none 0 0,.slice Option.none 0 0,.slice Option.none 0 0,.slice Option.none 0 0] 35));clear hr hr' hb0 hn0 hk0;unfold maxLen at hm';go_enter Tryz.func9,Tryz.ntmps9;go_upto_region 1 with fail
  generalize w.alloc (Obj.cells #[.slice Option.none 0 0,.slice Option.none 0 0,.slice Option.none 0 0,.slice Option.none 0 0] 35)=W1 at *;go_wp2_with fail
  refine HRUL.out.mono ?_
  rintro e w2 ⟨v,xs,a,er,T,hP,rfl,hownX,hb1⟩
  obtain ⟨A7,c7,rfl,hc7,hm7⟩:=hownX.shape;have hs1:=HS0.out;have hs2:=hb1.size;have hbw:=zac HB0.out hb1 HB0.out.size;have hx0:=(hb1.block w.heap.size (by omega)).trans HN0.out;have HX0:=Hi hx0;obtain ⟨e00,e01,e02,e03⟩:=zaS hx0;have f0:=Lib.frozen_of_heap hx0 0;have f1:=Lib.frozen_of_heap hx0 1;have f2:=Lib.frozen_of_heap hx0 2;have f3:=Lib.frozen_of_heap hx0 3;have hl0:w.heap.size<w2.heap.size:=by omega
  have HBW:=Hi hbw
  by_cases her:er=0
  case neg =>
    have ber:(er != 0)=true:=by simpa using her
    have hx9:=zbf hx0 (.slice Option.none 0 0) (.slice Option.none 0 0) (.slice Option.none 0 0) (.slice Option.none 0 0);obtain ⟨z0,z1,z2,z3⟩:=zaS hx9;have HER:=Hi her;clear hx9 hx0 hbw hownX hb1 hP her;go_wp2;refine bodyPost_ret (v := .tuple #[.agg #[.slice Option.none 0 0,.slice Option.none 0 0,.slice Option.none 0 0,.slice Option.none 0 0],.int .i64 a,.int .i64 er]) ?_ rfl ?_
    · simp [results,Tryz.results9,go_sem,z0,z1,z2,z3]
    · exact RetC7.none HER.out (zc1 HBW.out _ _ _ _)
  subst her;have hr0:(rulP rs ins).2.2=0:=by rw [hP]
  have hx1:(rulP rs ins).1=xs:=by rw [hP]
  obtain ⟨env,hro⟩:=zhh hr0;have hok:=hro.ok (fun t h=>za6 h);have hfew:=hro.few;have hxl:xs.length=rs.length:=by rw [← hx1,hro.list,List.length_map]
  have hvx:∀ x∈xs,zaR x=true:=by
    intro x hx;rw [← hx1,hro.list] at hx;obtain ⟨r,hr,rfl⟩:=List.mem_map.1 hx;exact za6 (hro.parse r hr)
  have hmost:=zds (ins.map (·.nm)) (rs.map (·.nm)) xs 0 ⟨[],[],0,0⟩ hvx;obtain ⟨hct1,hct2⟩:=zfw (ins.map (·.nm)) (rs.map (·.nm)) xs 0 ⟨[],[],0,0⟩;have HEM:=Hi (show (emP rs ins (rulP rs ins).1).cells.length=(cntL (cntG 16) xs).2 by rw [hx1];unfold emP;rw [hct2];exact Nat.zero_add _);rw [hct1] at hmost;have hle2:=zgp (ziz 16) xs;obtain ⟨Ta,hTa⟩:∃ T,(cntL (cntG 16) xs).2=T:=⟨_,rfl⟩;obtain ⟨Tb,hTb⟩:∃ T,(cntL (cntG 16) xs).1+xs.length=T:=⟨_,rfl⟩
  have hTb1:Tb≤1000:=by
    have h0:(([]:List Ins)).length=0:=rfl;rw [hTb,h0] at hmost;omega
  have hTa1:Ta≤1000:=by omega
  rw [hTa] at HEM;have HTA:=Hi hTa;have HTB:=Hi hTb;have HOK:=Hi (fun x (h:x∈xs)=>zfm (hvx x h));have HXL:=Hi hxl;have HXR:=Hi (hownX.rw (S:=fun b=>b<w2.heap.size) rfl (fun b _ h=>h));have HB1:=Hi hb1;have hil:ins.length≤64:=hfew.2;have hrl:rs.length≤16:=hfew.1;obtain ⟨ti,hti,hz0,hz1,hz2⟩:=info_parts zkX;have HTI:=Hi (And.intro hti (And.intro hz0 (And.intro hz1 hz2)));obtain ⟨ti,hti,hz0,hz1,hz2⟩:=info_parts zfK;have HTN:=Hi (And.intro hti (And.intro hz0 (And.intro hz1 hz2)));obtain ⟨ti,hti,hz0,hz1,hz2⟩:=info_parts zgs;have HTC:=Hi (And.intro hti (And.intro hz0 (And.intro hz1 hz2)))
  have HFIT:=Hi (fun s (q:s∈ins)=>show s.nm.length≤maxLen∧(Lit.int .i64 s.kind).wf=true by
    obtain ⟨cs,hc⟩:=zdi HRI.out s q;exact hc.2)
  have HNFT:=Hi (fun r (q:r∈rs)=>show r.nm.length≤maxLen by
    obtain ⟨cs,hc⟩:=zdi HR.out r q;exact hc.2.1)
  have hbe:=zaa w2 (Obj.cells #[] 40);have hbwe:=zac hbw hbe hbw.size;have HO1:=Hi (show (w2.alloc (Obj.cells #[] 40)).ownsRow w2.heap.size 40 2 (.slice (some ⟨w2.heap.size,0,none⟩) 0 0) 0 [] from World.ownsRow_lit (base:=w2.heap.size) (e := 40) (size:=2) w2 #[] 0 (Nat.le_refl _) (Nat.zero_le _) rfl);have HS1:=Hi (zk3 (f:=zbH) (HRI.out.mono SgC.mono (S':=Old w) (fun _ q=>q) (zab hbwe fun _ q=>q)) (fun cs x h=>h.1) (fun x _=>rfl));have on1:=Hi (zen ins);have HM1:=Hi (show 0+ins.length≤maxLen by unfold maxLen;omega);have HM2:=Hi (show (0+ins.length)*24≤140737488355328 by omega);have HZ1:=Hi (show w2.heap.size≤(w2.alloc (Obj.cells #[] 40)).heap.size by rw [World.size_alloc];omega);have HBE:=Hi hbe;clear e00 e01 e02 e03 hr0 hx1 hro hok hfew hxl hvx hmost hct1 hct2 hle2 hTa hTb hownX hb1 hbw hx0 hti hz0 hz1 hz2 hbe hbwe hP f0 f1 f2 f3;go_upto_region 5 with (at_builtin;refine zaj (o:=⟨some 29,_,_,_,_,_⟩) (w:=w2.alloc (Obj.cells #[] 40)) _ _ 23 rfl rfl Tryz.underlying23 HTI.out.1 HTI.out.2.1 HTI.out.2.2.1 HTI.out.2.2.2 rfl (by decide) rfl HO1.out rfl HS1.out on1.out HM1.out HM2.out HZ1.out ?_;intro v7 w7 hown7 hg7 hv7;have HO7:=Hi hown7;have HG7:=Hi hg7;obtain ⟨A8,c8,hv8,-,-⟩:=zag hown7;clear hown7 hg7 hv7;subst hv8)
  have ho7:=HO7.out;simp only [Nat.zero_add,List.nil_append] at ho7;have hs7:=HG7.out.size;rw [World.size_alloc] at hs7
  have hb7:Below w2.heap.size w2 w7:=(HBE.out).grown HG7.out HBE.out.size (fun j hj=>by
    have q:some w2.heap.size=some j:=hj;injection q with q
    omega)
  have hnP:=heap_alloc_new w7 (Obj.cells #[.slice A8 ins.length c8,.slice Option.none 0 0,.slice Option.none 0 0,.slice Option.none 0 0] 35);have hbP:=zaa w7 (Obj.cells #[.slice A8 ins.length c8,.slice Option.none 0 0,.slice Option.none 0 0,.slice Option.none 0 0] 35);have HNP:=Hi hnP;have HSP:=Hi (World.size_alloc w7 (Obj.cells #[.slice A8 ins.length c8,.slice Option.none 0 0,.slice Option.none 0 0,.slice Option.none 0 0] 35));have HRI2:=Hi (Rw.of_own (R:=SgC) (S:=fun b=>b<w7.heap.size) (f:=zbH) ho7 rfl (fun _ _=>rfl) (fun s hs=>⟨rfl,HFIT.out s hs⟩) (fun _ _ q=>q));have HB7:=Hi (zac hb7 hbP hb7.size);have HBP:=Hi hbP;clear ho7 hb7 hnP hbP HO1 HS1 on1 HM1 HM2 HZ1 HG7 HO7;obtain ⟨nP,hnPe⟩:∃ nP,w7.heap.size=nP:=⟨_,rfl⟩;rw [hnPe] at HNP HSP HRI2 HBP hs7 ⊢;clear hnPe;generalize w7.alloc (Obj.cells #[.slice A8 ins.length c8,.slice Option.none 0 0,.slice Option.none 0 0,.slice Option.none 0 0] 35)=W7 at *;go_wp2;go_loopg [33] (rs.length+1) (fun g v33 wr=>CnL W7 nP (.slice A8 ins.length c8) rs g v33 wr)
  case atStart=>exact ⟨0,.slice Option.none 0 0,Nat.zero_le _,by omega,rfl,HNP.out,World.ownsRow_nil _ _ _ _,KB.refl _ _,by have:=HSP.out;omega⟩
  case round =>
    obtain ⟨k,vR,hk,hg,rfl,hxp,hown,hkb,hlp⟩:=hrel;have hsP:=HSP.out;have hszk:=hkb.size;obtain ⟨AR,cR,hvR,hcR,hmR⟩:=zag hown;subst hvR;have hbk7:Below w2.heap.size w2 wr:=HB7.out.trans (hkb.below (by omega) (fun b q=>by have q':nP≤b:=q;omega));have hbkw:=zac HBW.out hbk7 HBW.out.size;have q1:wr.cell? ⟨nP,1,none⟩=some (.slice AR k cR):=by simp [World.cell?,hxp]
    have g1:=Lib.frozen_of_heap hxp 1;have HXP:=Hi hxp;have HOW:=Hi hown;have HKB:=Hi hkb;have HB2K:=Hi hbk7
    by_cases hlt:k<rs.length
    case neg =>
      obtain rfl:k=rs.length:=by omega
      have hrr:=Rw.of_own (R:=NmC) (S:=fun b=>b<wr.heap.size∧b≠nP) (f:=fun s=>[nmV s]) (xs:=rs.map (·.nm)) (base:=nP+1) (e := 9) (c:=cR) (n:=rs.length) (w:=wr) (A:=AR) (size:=1) (by
        have h:=HOW.out;rw [List.take_length] at h;rw [← List.map_eq_flatMap,List.map_map];exact h) (by rw [List.length_map]) (fun _ _=>rfl) (fun s q=>⟨rfl,by
        obtain ⟨r,hr',rfl⟩:=List.mem_map.1 q;exact HNFT.out r hr'⟩) (fun b h1 h2=>⟨h2,by omega⟩)
      have HRR:=Hi hrr
      have hri:=HRI2.out.mono SgC.mono (S':=fun b=>b<wr.heap.size∧b≠nP) (w':=wr) (fun b q=>by have q':b<nP:=q;exact ⟨by omega,by omega⟩) (fun b q=>by
        have q':b<nP:=q;exact ((hkb.block b (by omega) (by omega)).trans (HBP.out.block b q')))
      have HRI3:=Hi hri;have hxr:=HXR.out.mono ExV.mono (S':=fun b=>b<wr.heap.size∧b≠nP) (w':=wr) (fun b q=>by have q':b<w2.heap.size:=q;exact ⟨by omega,by omega⟩) (zab hbk7 fun _ q=>q);have HXR3:=Hi hxr;clear hxp hown hkb hbk7 hbkw hrr hri hxr HXR HRI2 q1 g1 hlt;go_wp2;go_loopg [47] (xs.length+1) (fun g v47 wq=>CeL wr nP wr.heap.size (.slice A8 ins.length c8) (.slice AR rs.length cR) xs Ta Tb g v47 wq)
      case atStart=>exact ⟨0,_,_,0,0,Nat.zero_le _,by omega,rfl,by rw [List.drop_zero,Nat.zero_add];exact HTA.out,by rw [List.drop_zero,Nat.zero_add];exact HTB.out,HXP.out,⟨Nat.le_refl _,⟨[],rfl,World.ownsRow_nil _ _ _ _⟩,⟨[],rfl,World.ownsRow_nil _ _ _ _⟩,fun g q=>by simp [Value.ownBlock] at q⟩,KB.refl _ _⟩
      case round =>
        rename World=>wq
        obtain ⟨j,v3,v4,ca,cb,hj,hgj,rfl,hta,htb,hxq,hes,hkq⟩:=hrel;have hszq:=hkq.size;have hkE:KeepOn (fun b=>b<wr.heap.size∧b≠nP) wr wq:=fun b q=>hkq.block b q.1 (fun z=>by rcases z with z | z;exact q.2 z;omega)
        have q0:wq.cell? ⟨nP,0,none⟩=some (.slice A8 ins.length c8):=by simp [World.cell?,hxq]
        have q1:wq.cell? ⟨nP,1,none⟩=some (.slice AR rs.length cR):=by simp [World.cell?,hxq]
        have q2:wq.cell? ⟨nP,2,none⟩=some v3:=by simp [World.cell?,hxq]
        have q3:wq.cell? ⟨nP,3,none⟩=some v4:=by simp [World.cell?,hxq]
        have hlq:nP<wq.heap.size:=by omega
        have HXQ:=Hi hxq;have HES:=Hi hes;have HKQ:=Hi hkq
        by_cases hlj:j<xs.length
        case neg =>
          obtain rfl:j=xs.length:=by omega
          rw [List.drop_length] at hta htb;obtain rfl:ca=Ta:=hta;obtain rfl:cb=Tb:=htb;obtain ⟨code,hcl,ho4⟩:=HES.out.o4;obtain ⟨A4,c4,hv4,-,-⟩:=zag ho4;subst hv4
          obtain ⟨A3,c3,hv3,-,-⟩:∃ A c,v3 = .slice A ca c∧ca≤c∧c≤maxLen:=by
            obtain ⟨_,-,o⟩:=HES.out.o3;exact zag o
          subst hv3;have hir:=Rw.of_own (R:=InC) (S:=fun b=>b<wq.heap.size) (f:=insC) ho4 hcl (fun _ _=>rfl) (fun _ _=>rfl) (fun _ _ q=>q);have HD:=Hi (zjl (.slice A8 ins.length c8) (.slice AR rs.length cR) (.slice A3 ca c3) A4 c4 code wq (by omega) (by rw [hcl];exact hir));rw [hcl] at HD;have hxn:=(hkq.block w.heap.size (by omega) (by omega)).trans ((HKB.out.block w.heap.size (by omega) (by omega)).trans ((HB7.out.block w.heap.size hl0).trans HX0.out));have HXN:=Hi hxn;have hbq:Below w2.heap.size w2 wq:=HB2K.out.trans (hkq.below (by omega) (fun b q=>by rcases q with q | q <;> omega));have HBQ:=Hi (zac HBW.out hbq HBW.out.size);clear hxq hes hkq hkE hlj ho4 hir hxn hbq hcl HTA HTB HXR3 HRI3 HRR HOW
          by_cases g600:(600:Int)<(cb:Int)
          · have hx9:=zbf HXN.out (.slice Option.none 0 0) (.slice Option.none 0 0) (.slice Option.none 0 0) (.slice Option.none 0 0)
            obtain ⟨z0,z1,z2,z3⟩:=zaS hx9
            obtain ⟨e00,e01,e02,e03⟩:=zaS HXN.out
            have f0:=Lib.frozen_of_heap HXN.out 0
            have f1:=Lib.frozen_of_heap HXN.out 1
            have f2:=Lib.frozen_of_heap HXN.out 2
            have f3:=Lib.frozen_of_heap HXN.out 3
            have hl9:w.heap.size<wq.heap.size:=by omega
            clear hx9
            go_wp2
            refine bodyPost_ret (v := .tuple #[.agg #[.slice Option.none 0 0,.slice Option.none 0 0,.slice Option.none 0 0,.slice Option.none 0 0],.int .i64 0,.int .i64 4]) ?_ rfl ?_
            · simp [results,Tryz.results9,go_sem,z0,z1,z2,z3]
            · exact RetC7.none (by decide) (zc1 HBQ.out _ _ _ _)
          by_cases g64:(64:Int)<(ca:Int)
          · have hx9:=zbf HXN.out (.slice Option.none 0 0) (.slice Option.none 0 0) (.slice Option.none 0 0) (.slice Option.none 0 0)
            obtain ⟨z0,z1,z2,z3⟩:=zaS hx9
            obtain ⟨e00,e01,e02,e03⟩:=zaS HXN.out
            have f0:=Lib.frozen_of_heap HXN.out 0
            have f1:=Lib.frozen_of_heap HXN.out 1
            have f2:=Lib.frozen_of_heap HXN.out 2
            have f3:=Lib.frozen_of_heap HXN.out 3
            have hl9:w.heap.size<wq.heap.size:=by omega
            clear hx9
            go_wp2
            refine bodyPost_ret (v := .tuple #[.agg #[.slice Option.none 0 0,.slice Option.none 0 0,.slice Option.none 0 0,.slice Option.none 0 0],.int .i64 0,.int .i64 4]) ?_ rfl ?_
            · simp [results,Tryz.results9,go_sem,z0,z1,z2,z3]
            · exact RetC7.none (by decide) (zc1 HBQ.out _ _ _ _)
          go_wp2_with fail
          refine HD.out.mono ?_
          rintro e w9 ⟨z,rfl,hb9⟩
          have hbz:=zac HBQ.out hb9 HBQ.out.size;have hs9:=hb9.size;have hxn9:=(hb9.block w.heap.size (by omega)).trans HXN.out;have hxq9:=(hb9.block nP hlq).trans HXQ.out;have HBZ:=Hi hbz;obtain ⟨e00,e01,e02,e03⟩:=zaS hxn9;have f0:=Lib.frozen_of_heap hxn9 0;have f1:=Lib.frozen_of_heap hxn9 1;have f2:=Lib.frozen_of_heap hxn9 2;have f3:=Lib.frozen_of_heap hxn9 3;have hl9:w.heap.size<w9.heap.size:=by omega
          have hlp9:nP<w9.heap.size:=by omega
          clear q0 q1 q2 q3;have q0:w9.cell? ⟨nP,0,none⟩=some (.slice A8 ins.length c8):=by simp [World.cell?,hxq9]
          have q1:w9.cell? ⟨nP,1,none⟩=some (.slice AR rs.length cR):=by simp [World.cell?,hxq9]
          have q2:w9.cell? ⟨nP,2,none⟩=some (.slice A3 ca c3):=by simp [World.cell?,hxq9]
          have q3:w9.cell? ⟨nP,3,none⟩=some (.slice A4 cb c4):=by simp [World.cell?,hxq9]
          by_cases g24:(24:Int)<z
          · have hx9:=zbf hxn9 (.slice Option.none 0 0) (.slice Option.none 0 0) (.slice Option.none 0 0) (.slice Option.none 0 0)
            obtain ⟨z0,z1,z2,z3⟩:=zaS hx9
            clear hb9 hbz hxn9 hxq9 hx9
            go_wp2
            refine bodyPost_ret (v := .tuple #[.agg #[.slice Option.none 0 0,.slice Option.none 0 0,.slice Option.none 0 0,.slice Option.none 0 0],.int .i64 0,.int .i64 4]) ?_ rfl ?_
            · simp [results,Tryz.results9,go_sem,z0,z1,z2,z3]
            · exact RetC7.none (by decide) (zc1 HBZ.out _ _ _ _)
          · have hx9:=zbf hxn9 (.slice A8 ins.length c8) (.slice AR rs.length cR) (.slice A3 ca c3) (.slice A4 cb c4)
            obtain ⟨z0,z1,z2,z3⟩:=zaS hx9
            clear hb9 hbz hxn9 hxq9 hx9
            go_wp2
            refine bodyPost_ret (v := .tuple #[.agg #[.slice A8 ins.length c8,.slice AR rs.length cR,.slice A3 ca c3,.slice A4 cb c4],.int .i64 0,.int .i64 0]) ?_ rfl ?_
            · simp [results,Tryz.results9,go_sem,z0,z1,z2,z3]
            · exact ⟨A8,AR,A3,A4,_,_,_,_,c8,cR,c3,c4,0,0,rfl,fun _=>HEM.out.symm,zc1 HBZ.out _ _ _ _⟩
        obtain ⟨bb,o,op2,n2,nm2,A5,c5,ys,hA,hSb,hky,hc2,hm2,hp2,hr3,hxb⟩:=exAt (HXR3.out.mono ExV.mono (fun _ q=>q) (w':=wq) hkE) hlj;subst hA;obtain ⟨y0,y1,y2,y3⟩:=hxb
        have hget:xs[j] = .mk op2 n2 nm2 ys:=by
          rw [List.getElem?_eq_getElem hlj] at hky;injection hky
        rw [List.drop_eq_getElem_cons hlj,hget] at hta htb;have hta2:ca+((cntG 16 (.mk op2 n2 nm2 ys)).2+(cntL (cntG 16) (xs.drop (j+1))).2)=Ta:=hta;have htb2:cb+(((cntG 16 (.mk op2 n2 nm2 ys)).1+(cntL (cntG 16) (xs.drop (j+1))).1)+((xs.drop (j+1)).length+1))=Tb:=htb;have hokk:=HOK.out _ (List.mem_of_getElem? hky);have hys:ys.length≤9223372036854775807:=by unfold maxLen at hm2;omega
        have hbx:=zaa wq (Obj.cells #[.int .i64 op2,.int .i64 n2,.string ⟨nm2.toArray⟩,.slice A5 ys.length c5] 48);have hkE2:=zab (S:=fun g=>g<wr.heap.size) hbx (fun g q=>by have q':g<wr.heap.size:=q;omega)
        have C1:=zjn ins (rs.map (·.nm)) wr.heap.size A8 AR c8 cR (by omega) (by rw [List.length_map];unfold maxLen;omega) 15 op2 n2 nm2 A5 c5 ys (wq.alloc (Obj.cells #[.int .i64 op2,.int .i64 n2,.string ⟨nm2.toArray⟩,.slice A5 ys.length c5] 48)) v3 v4 ca cb hokk hp2 hys
          ((hr3.mono ExV.mono (S':=fun g=>g<wr.heap.size) (fun g q=>q.1) (KeepOn.refl _ _)).mono ExV.mono (fun g q=>q) hkE2) (hes.below hbx)
          (((HRI3.out.mono SgC.mono (fun _ q=>q) hkE).mono SgC.mono (S':=fun g=>g<wr.heap.size) (fun g q=>q.1) (KeepOn.refl _ _)).mono SgC.mono (fun g q=>q) hkE2)
          (by rw [List.length_map];exact ((HRR.out.mono NmC.mono (fun _ q=>q) hkE).mono NmC.mono (S':=fun g=>g<wr.heap.size) (fun g q=>q.1) (KeepOn.refl _ _)).mono NmC.mono (fun g q=>q) hkE2) (show ca+(cntG 16 (.mk op2 n2 nm2 ys)).2≤100000 by omega) (show cb+(cntG 16 (.mk op2 n2 nm2 ys)).1≤100000 by omega)
        rw [List.length_map] at C1;unfold exV at C1;obtain ⟨cn,hcn⟩:∃ cn,cntG (15+1) (.mk op2 n2 nm2 ys)=cn:=⟨_,rfl⟩;have hcn':cntG 16 (.mk op2 n2 nm2 ys)=cn:=hcn;rw [hcn'] at hta2 htb2;rw [hcn] at C1;have HC1:=Hi C1;have HTA2:=Hi hta2;have HTB2:=Hi htb2;have HBX:=Hi hbx;have HSA:=Hi (World.size_alloc wq (Obj.cells #[.int .i64 op2,.int .i64 n2,.string ⟨nm2.toArray⟩,.slice A5 ys.length c5] 48));have hbk:bb<wq.heap.size:=by have:=hSb.1;omega
        have hcb:cb+cn.1≤1000:=by omega
        have hjx:j≤16:=by have:=HXL.out;omega
        clear hr3 C1 hta2 htb2 hkE2 hky hget hokk hp2 hc2 hta htb hSb hcn hcn' hbx hkE hxq hes hkq;unfold maxLen at hm2;go_wp2_with fail
        refine HC1.out.mono ?_
        rintro e w5 ⟨v35,v45,rfl,hes5,hkb5,hf35,hf45⟩
        obtain ⟨A35,c35,hv35,-,-⟩:∃ A c,v35 = .slice A (ca+cn.2) c∧ca+cn.2≤c∧c≤maxLen:=by
          obtain ⟨_,-,o⟩:=hes5.o3;exact zag o
        subst hv35;have hs5:=hkb5.size;have hsa:=HSA.out
        have h50:w5.heap[nP]? = some (.cells #[.slice A8 ins.length c8,.slice AR rs.length cR,v3,v4] 35 (0,0)):=(hkb5.block _ (by omega) (fun q=>by
          rcases q with q | q | q
          · omega
          · have:=(HES.out.lt3 q).1;omega
          · have:=(HES.out.lt4 q).1;omega)).trans ((HBX.out.block _ hlq).trans HXQ.out)
        obtain ⟨A45,c45,hv45,-,-⟩:∃ A c,v45 = .slice A (cb+cn.1) c∧cb+cn.1≤c∧c≤maxLen:=by
          obtain ⟨_,-,o⟩:=hes5.o4;exact zag o
        subst hv45;obtain ⟨e50,e51,e52,e53⟩:=zaS h50;have f0:=Lib.frozen_of_heap h50 0;have f1:=Lib.frozen_of_heap h50 1;have f2:=Lib.frozen_of_heap h50 2;have f3:=Lib.frozen_of_heap h50 3;have hl5:nP<w5.heap.size:=by omega
        have hw5:wr.heap.size≤w5.heap.size:=by omega
        have hx6:=zbf h50 (.slice A8 ins.length c8) (.slice AR rs.length cR) (.slice A35 (ca+cn.2) c35) (.slice A45 (cb+cn.1) c45);have hf6:=zdW w5 nP (.slice A8 ins.length c8) (.slice AR rs.length cR) (.slice A35 (ca+cn.2) c35) (.slice A45 (cb+cn.1) c45);have hz6:=zch w5 nP (.slice A8 ins.length c8) (.slice AR rs.length cR) (.slice A35 (ca+cn.2) c35) (.slice A45 (cb+cn.1) c45);have HE6:=Hi (hes5.keep (w':=((((w5.setCell ⟨nP,0,none⟩ (.slice A8 ins.length c8)).setCell ⟨nP,1,none⟩ (.slice AR rs.length cR)).setCell ⟨nP,2,none⟩ (.slice A35 (ca+cn.2) c35)).setCell ⟨nP,3,none⟩ (.slice A45 (cb+cn.1) c45))) (by rw [hz6];exact Nat.le_refl _) (fun g e=>hf6 g (by have:=(hes5.lt3 e).1;omega)) (fun g e=>hf6 g (by have:=(hes5.lt4 e).1;omega)))
        have HK6:=Hi (zeV ((HKQ.out.trans (KB.of_below HBX.out)).trans (hkb5.mono (T:=fun g=>g=nP∨wr.heap.size≤g) (fun g _ q=>by
          rcases q with q | q | q
          · exact .inr (by omega)
          · exact .inr (HES.out.lt3 q).1
          · exact .inr (HES.out.lt4 q).1))) nP (.slice A8 ins.length c8) (.slice AR rs.length cR) (.slice A35 (ca+cn.2) c35) (.slice A45 (cb+cn.1) c45) (.inl rfl))
        have HX6:=Hi hx6;have HZ6:=Hi hz6;clear h50 hes5 hkb5 hf35 hf45 hx6 hf6 hz6 hsa HC1 HBX HSA q0 q1 q2 q3;go_upto_region 14 with fail
        clear f0 f1 f2 f3 e50 e51 e52 e53;generalize (((w5.setCell ⟨nP,0,none⟩ (.slice A8 ins.length c8)).setCell ⟨nP,1,none⟩ (.slice AR rs.length cR)).setCell ⟨nP,2,none⟩ (.slice A35 (ca+cn.2) c35)).setCell ⟨nP,3,none⟩ (.slice A45 (cb+cn.1) c45)=W6 at *;have hz6:w5.heap.size≤W6.heap.size:=by rw [HZ6.out];exact Nat.le_refl _
        have hx6:=HX6.out;have q3:W6.cell? ⟨nP,3,none⟩=some (.slice A45 (cb+cn.1) c45):=by simp [World.cell?,hx6]
        have hl6:nP<W6.heap.size:=by omega
        obtain ⟨code,hcl,ho4⟩:=HE6.out.o4;have HCL:=Hi hcl;have HOX:=Hi (ho4.alloc (Obj.cells #[.int .i64 32,.int .i64 (j:Int)] 76));have HSR:=Hi (zaL W6 [.int .i64 32,.int .i64 (j:Int)] 76 2 1 rfl);have HM1:=Hi (show (cb+cn.1)+1≤maxLen by unfold maxLen;omega);have HM2:=Hi (show ((cb+cn.1)+1)*16≤140737488355328 by omega);have HBS:=Hi (show wr.heap.size≤(W6.alloc (Obj.cells #[.int .i64 32,.int .i64 (j:Int)] 76)).heap.size by rw [World.size_alloc];omega);clear ho4 hcl hx6;go_wp2_with (at_builtin;refine zaj (o:=⟨some 60,_,_,_,_,_⟩) (w:=W6.alloc (Obj.cells #[.int .i64 32,.int .i64 (j:Int)] 76)) _ _ 33 rfl rfl Tryz.underlying33 HTC.out.1 HTC.out.2.1 HTC.out.2.2.1 HTC.out.2.2.2 rfl (by decide) rfl HOX.out rfl HSR.out (zcr ⟨32,(j:Int)⟩) HM1.out HM2.out HBS.out ?_;intro v8 w8 hown8 hg8 hv8;have hx8:w8.heap[nP]? = some (.cells #[.slice A8 ins.length c8,.slice AR rs.length cR,(.slice A35 (ca+cn.2) c35),.slice A45 (cb+cn.1) c45] 35 (0,0)):=(hg8.block nP (by rw [World.size_alloc];omega) (fun q=>by have:=(HE6.out.lt4 q.symm).1;omega)).trans ((Lib.alloc_old W6 _ nP hl6).trans HX6.out);have c8':w8.cell? ⟨nP,3,none⟩=some (.slice A45 (cb+cn.1) c45):=(by simp [World.cell?,hx8]);have f8:=Lib.frozen_of_heap hx8 3;have l8:=(Array.getElem?_eq_some_iff.1 hx8).1;have HE8:=Hi (HE6.out.push HCL.out ⟨32,(j:Int)⟩ hown8 hg8 hv8);have HG8:=Hi hg8;have HX8:=Hi hx8;obtain ⟨A9,k9,hv9e,-,-⟩:=zag hown8;clear hown8 hg8 hv8 hx8;subst hv9e)
        go_roundg (xs.length-j)
        case measure=>omega
        case rel =>
          have hsa:=World.size_alloc W6 (Obj.cells #[.int .i64 32,.int .i64 (j:Int)] 76);refine ⟨j+1,(.slice A35 (ca+cn.2) c35),_,_,_,by omega,by omega,by go_num,by rw [Nat.add_assoc];exact HTA2.out,by have:=HTB2.out;omega,?_,HE8.out.keep (by rw [World.size_setCell];exact Nat.le_refl _) (fun g e=>Below.heap_setCell w8 _ _ g (fun q=>by have:=(HE8.out.lt3 e).1;have q':g=nP:=q;omega)) (fun g e=>Below.heap_setCell w8 _ _ g (fun q=>by have:=(HE8.out.lt4 e).1;have q':g=nP:=q;omega)),?_⟩
          · have:=heap_setCell_same w8 nP 3 _ _ (.slice A9 (cb+cn.1+1) k9) HX8.out
            rw [this];rfl
          · exact zbV ((HK6.out.trans (KB.of_below (zaa _ _))).trans (KB.of_grown HG8.out (fun g _ q => .inr (HE6.out.lt4 q).1))) nP 3 _ (fun _ => .inl rfl)
    obtain ⟨b,o,r,hA,hSb,hks,hnl,htl,y0,y1⟩:=rlAt (HR.out.mono RlC.mono (fun b q=>q) (zab hbkw fun b q=>q)) hlt;subst hA;have hTK:(rs.take (k+1)).map (fun r=>nmV r.nm)=(rs.take k).map (fun r=>nmV r.nm)++[.string ⟨r.nm.toArray⟩]:=by rw [List.take_add_one,hks];simp
    have HTK:=Hi hTK;have hb1:=zaa wr (Obj.cells #[.string ⟨r.nm.toArray⟩,.string ⟨r.text.toArray⟩] 46);have HBX:=Hi (zac hb1 (zaa _ (Obj.cells #[.string ⟨r.nm.toArray⟩] 9)) hb1.size);have HOX:=Hi ((hown.alloc (Obj.cells #[.string ⟨r.nm.toArray⟩,.string ⟨r.text.toArray⟩] 46)).alloc (Obj.cells #[.string ⟨r.nm.toArray⟩] 9));have hsr:=zaL (wr.alloc (Obj.cells #[.string ⟨r.nm.toArray⟩,.string ⟨r.text.toArray⟩] 46)) [.string ⟨r.nm.toArray⟩] 9 1 1 rfl;rw [World.size_alloc] at hsr;have HSR:=Hi hsr;have HM1:=Hi (show k+1≤maxLen by unfold maxLen;omega);have HM2:=Hi (show (k+1)*16≤140737488355328 by omega);have hsab:((wr.alloc (Obj.cells #[.string ⟨r.nm.toArray⟩,.string ⟨r.text.toArray⟩] 46)).alloc (Obj.cells #[.string ⟨r.nm.toArray⟩] 9)).heap.size=wr.heap.size+2:=by simp only [World.size_alloc]
    have HSB:=Hi hsab;have HBS:=Hi (show nP+1≤((wr.alloc (Obj.cells #[.string ⟨r.nm.toArray⟩,.string ⟨r.text.toArray⟩] 46)).alloc (Obj.cells #[.string ⟨r.nm.toArray⟩] 9)).heap.size by rw [hsab];omega);have hbk:b<wr.heap.size:=by have q:b<w.heap.size:=hSb;omega
    clear hxp hown hkb hbk7 hbkw hks hsr hTK hb1 hSb hsab;go_wp2_with (at_builtin;refine zaj (o:=⟨some 42,_,_,_,_,_⟩) (w:=(wr.alloc (Obj.cells #[.string ⟨r.nm.toArray⟩,.string ⟨r.text.toArray⟩] 46)).alloc (Obj.cells #[.string ⟨r.nm.toArray⟩] 9)) _ _ 31 rfl rfl Tryz.underlying31 HTN.out.1 HTN.out.2.1 HTN.out.2.2.1 HTN.out.2.2.2 rfl (by decide) rfl HOX.out rfl HSR.out (by intro u hu;rw [List.mem_singleton.1 hu];rfl) HM1.out HM2.out HBS.out ?_;intro v8 w8 hown8 hg8 hv8;have hx8:w8.heap[nP]? = some (.cells #[.slice A8 ins.length c8,.slice AR k cR,.slice Option.none 0 0,.slice Option.none 0 0] 35 (0,0)):=(hg8.block nP (by rw [HSB.out];omega) (fun q=>by have:=(HOW.out.lt nP q.symm).1;omega)).trans ((HBX.out.block nP hlp).trans HXP.out);have c8':w8.cell? ⟨nP,1,none⟩=some (.slice AR k cR):=(by simp [World.cell?,hx8]);have f8:=Lib.frozen_of_heap hx8 1;have l8:=(Array.getElem?_eq_some_iff.1 hx8).1;have HO8:=Hi hown8;have HG8:=Hi hg8;have HX8:=Hi hx8;obtain ⟨A9,k9,hv9e,-,-⟩:=zag hown8;clear hown8 hg8 hv8 hx8;subst hv9e)
    go_roundg (rs.length-k)
    case measure=>omega
    case rel =>
      refine ⟨k+1,.slice A9 (k+1) k9,by omega,by omega,by go_num,?_,?_,?_,by rw [World.size_setCell];exact (Array.getElem?_eq_some_iff.1 HX8.out).1⟩
      · have:=heap_setCell_same w8 nP 1 _ _ (.slice A9 (k+1) k9) HX8.out
        rw [this];rfl
      · rw [HTK.out]
        exact zam HO8.out (fun g e _=>Below.heap_setCell w8 _ _ g (fun q=>by have:=(HO8.out.lt g e).1;have q':g=nP:=q;omega))
      · exact zbV ((HKB.out.trans (KB.of_below HBX.out)).trans (KB.of_grown HG8.out (fun g _ q=>by have:=(HOW.out.lt g q).1;show nP≤g;omega))) nP 1 _ (fun _=>Nat.le_refl _)
end Go.Proofs.YtcikenlflcofbaaGreatDoor
