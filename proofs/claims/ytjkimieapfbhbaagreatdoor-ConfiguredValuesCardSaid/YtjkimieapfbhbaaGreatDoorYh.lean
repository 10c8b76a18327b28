/-
 The statements of a station.
-/
import Derived.Test.YtjkimieapfbhbaaGreatDoorYg
import Derived.Test.YtjkimieapfbhbaaGreatDoorKPUb
import Derived.Deep.DeepCutAuto
import Derived.Deep.CutRange
set_option maxRecDepth 100000
set_option maxHeartbeats 32000000
open Go.Value renaming int → f, string → l, slice → r, bool → E
open Go.IntKind renaming i64 → g
open Option renaming none → C
open Go.Obj renaming cells → D
open Nat renaming le_refl → F, lt_of_lt_of_le → J, le_trans → K, zero_le → M
open List renaming not_mem_nil → G, mem_cons → H, length_append → O, mem_of_getElem? → P
open And renaming intro → I
open Go.World renaming size_alloc → Q
namespace Go.Proofs.YtjkimieapfbhbaaGreatDoor
open Go.RowKit
def zh0 (lim:Nat) (w:World) (e:Ending) (w':World):Prop:=
 ∃ A c,∃ its:List (List Value),e = .returned (r A its.length c)∧its.length≤lim∧(its.length≤c∧c≤maxLen)∧Grows 2 (fun _=>False) w.heap.size w' (r A its.length c) its∧Below w.heap.size w w'
theorem Grows.base {d:Nat} {X:Nat→Prop} {base base':Nat} {w:World} {v:Value} {its:List (List Value)} (h:Grows d X base w v its) (hb:base'≤base):Grows d X base' w v its:=
 ⟨zao h.own hb,fun c hc=>ItC.mono d _ _ _ _ _ _ (fun _ q=>⟨K hb q.1,q.2⟩) (KeepOn.refl _ _) (h.each c hc),h.nx,h.xl,K hb h.lo⟩
theorem zcj {d:Nat} {X:Nat→Prop} {base:Nat} {wr w5 w':World} {v v':Value} {its:List (List Value)} {cs:List Value} {o:Obj} (h:Grows d X base wr v its) (hW:Below wr.heap.size wr w5)
 (hc:ItC d w5 (fun b=>wr.heap.size≤b∧b<w5.heap.size) cs ()) (hg:(w5.alloc o).grownBy w' v.ownBlock) (hv:v'.ownBlock=v.ownBlock∨v'.ownBlock=some (w5.heap.size+1))
 (hown:w'.ownsRow base 211 4 v' (its.length+1) (its.flatten++cs)):Grows d X base w' v' (its++[cs]):=by
 refine (h.below hW (F _)).more (W:=w5.alloc o) (by simp) (fun b hb=>heap_alloc_old w5 o hb) hg (by rw [Q];exact hv) (by simpa using hown) ?_
 intro c hcc;simp only [List.mem_singleton] at hcc;subst hcc;refine ItC.mono d _ _ _ _ _ _ (fun b q=>⟨?_,q.2,fun z => ?_,fun z => ?_⟩) (KeepOn.refl _ _) hc
 · have:=h.lo;have:=q.1;omega
 · have:=(h.own.lt b z).2;have:=q.1;omega
 · have:=h.xl b z;have:=q.1;omega
theorem zld {d base:Nat} {w:World} {cs:List Value} (h:ItC d w (fun b=>base≤b∧b<w.heap.size) cs ()) (hb:base≤w.heap.size):Grows d (fun _=>False) base (w.alloc (D cs.toArray 211)) (r (some ⟨w.heap.size,0,C⟩) 1 1) [cs]:=by
 refine ⟨?_,fun c hc => ?_,fun _ _ q=>q,fun _ q=>q.elim,by simp;omega⟩
 · have:=zao (zby w cs 211 4 1 (ItC.len h) (by unfold maxLen;omega)) hb
   simpa using this
 · simp only [List.mem_singleton] at hc
   subst hc
   refine ItC.mono d _ _ _ _ _ _ (fun b q=>⟨q.1,by have:=q.2;simp;omega,fun z => ?_,fun z=>z⟩) (fun b q=>heap_alloc_old w _ q.2) h
   have:=q.2
   have z':w.heap.size=b:=by simpa [Value.ownBlock] using z
   omega
def WdsR (n:Nat) (w4:World) (v:Value) (wx:World):Prop:=∃ A c,∃ xs:List ByteArray,v = r A n c∧xs.length=n∧(∀ s∈xs,Wt s)∧wx.ownsRow w4.heap.size 9 1 (r A n c) n (xs.map l)∧Below w4.heap.size w4 wx
theorem zjR {W:World} {k:Nat} {a b c d:Int} (R:Row W k 110 [f g a,f g b,f g c,f g d]) (h1:I64 a∧I64 b) (h2:I64 c∧I64 d):Rw ImpW 2 W (fun x=>x=k) (some ⟨k,0,C⟩) 2 [(a,b),(c,d)]:=by
 refine ⟨rfl,fun _=>⟨k,0,rfl,rfl,fun i y hy => ?_⟩⟩
 match i,hy with
 | 0,hy =>
   cases hy
   refine ⟨_,rfl,⟨rfl,h1⟩,fun j v hv => ?_⟩
   have:=Row.cell (k:=j) (v:=v) R (by
    match j,hv with
    | 0,hv=>exact hv
    | 1,hv=>exact hv)
   simpa using this
 | 1,hy =>
   cases hy
   refine ⟨_,rfl,⟨rfl,h2⟩,fun j v hv => ?_⟩
   have:=Row.cell (k:=2+j) (v:=v) R (by
    match j,hv with
    | 0,hv=>exact hv
    | 1,hv=>exact hv)
   simpa using this
def EncR (m L base:Nat) (W0:World) (v i:Value) (wr:World):Prop:=∃ k:Nat,∃ its:List (List Value),k≤L∧i = f g (k:Int)∧Grows 2 (fun _=>False) base wr v its∧its.length=m+k∧Below base W0 wr
theorem zd9 (B:Nat) (p:StAt) (S:StatM) (w:World) (hB:B≤w.heap.size) (T:Tab w) (hS:StC w B p S) (hF:StF S) :
 Calls Tryz.prog 79 #[.agg #[l S.name,r p.A1 S.buses.length p.c1,r p.A2 S.lines.length p.c2,r p.A3 S.sources.length p.c3,r p.A4 S.bays.length p.c4]] w (zh0 40 w):=by
 obtain ⟨i0,hi,hz0,hz1,hz2⟩:=info_parts zbn;have HTI:=Hd (I hi (I hz0 (I hz1 hz2)));clear hi hz0 hz1 hz2;obtain ⟨j0,hi,hz0,hz1,hz2⟩:=info_parts zcK;have HTJ:=Hd (I hi (I hz0 (I hz1 hz2)));clear hi hz0 hz1 hz2;have hn1:=hF.n1.2;have hn2:=hF.n2;have hn3:=hF.n3;have hn4:=hF.n4;have hb:=zaa w (D #[l S.name,r p.A1 S.buses.length p.c1,r p.A2 S.lines.length p.c2,r p.A3 S.sources.length p.c3,r p.A4 S.bays.length p.c4] 27);have R0:Row (w.alloc (D #[l S.name,r p.A1 S.buses.length p.c1,r p.A2 S.lines.length p.c2,r p.A3 S.sources.length p.c3,r p.A4 S.bays.length p.c4] 27)) w.heap.size 27 [l S.name,r p.A1 S.buses.length p.c1,r p.A2 S.lines.length p.c2,r p.A3 S.sources.length p.c3,r p.A4 S.bays.length p.c4]:=Row.new w.heap.size [l S.name,r p.A1 S.buses.length p.c1,r p.A2 S.lines.length p.c2,r p.A3 S.sources.length p.c3,r p.A4 S.bays.length p.c4] rfl;have hsz:((w.alloc (D #[l S.name,r p.A1 S.buses.length p.c1,r p.A2 S.lines.length p.c2,r p.A3 S.sources.length p.c3,r p.A4 S.bays.length p.c4] 27))).heap.size=w.heap.size+1:=by simp
 obtain ⟨q0,q1,q2,q3,q4⟩:=kr5 R0;generalize hP1:p.A1=P1 at *;have HP1:=Hd hP1;clear hP1;generalize hP2:p.A2=P2 at *;have HP2:=Hd hP2;clear hP2;generalize hP3:p.A3=P3 at *;have HP3:=Hd hP3;clear hP3;generalize hP4:p.A4=P4 at *;have HP4:=Hd hP4;clear hP4;have l0:=R0.lt;have HF:=Hd hF;have HS:=Hd hS;have HT:=Hd T;have HB:=Hd hb;have H0:=Hd R0;have HSZ:=Hd hsz;clear hF hS T hb R0 hsz;go_enter Tryz.func79,Tryz.ntmps79;go_upto_region 1 with fail
 generalize (w.alloc (D #[l S.name,r P1 S.buses.length p.c1,r P2 S.lines.length p.c2,r P3 S.sources.length p.c3,r P4 S.bays.length p.c4] 27))=W0 at *;have hBW:B≤W0.heap.size:=by have:=HB.out.size;omega
 go_wp2_with fail
 have HCK:=(zcl B p S W0 hBW (HS.out.mono (F _) (HB.out.mono hB)) HF.out);rw [HP1.out,HP2.out,HP3.out,HP4.out] at HCK;refine HCK.mono ?_
 rintro e w1 ⟨rfl,hb1⟩
 clear HCK;have c0:=(hb1.cell (p:=⟨w.heap.size,0,C⟩) l0).trans q0;have HB1:=Hd hb1;have hs1:=hb1.size;clear hb1;go_wp2_with fail
 refine (zmw [⟨#[115,116,97,116,105,111,110]⟩,S.name] 2 #[.string ⟨#[115,116,97,116,105,111,110]⟩,.string S.name] w1 rfl rfl (by decide) (by intro s hs;simp only [H,G,or_false] at hs;rcases hs with rfl | rfl;exact Wt.lit rfl;exact Wt.ok HF.out.name)).mono ?_
 rintro e w5 ⟨A1,c1,ws,rfl,hlen,hcc,ho5,hw5,hb5⟩
 have HB5:=Hd ((zaa w1 (D #[l ⟨#[115,116,97,116,105,111,110]⟩,l S.name] 9)).trans (hb5.mono (by omega)));have HO5:=Hd ho5;have HW5:=Hd hw5;have HLN:=Hd hlen;have hs5:=HB5.out.size;clear ho5 hw5 hb5 hlen c0;have hcs:ItC 2 w5 (fun b=>w1.heap.size≤b∧b<w5.heap.size) [f g 0,r A1 ws.length c1,E false,r C 0 0] ():=zdw HO5.out rfl HW5.out (by have:=HLN.out;omega) (fun b h1 h2=>⟨by omega,h2⟩);have hg6:=zld (base:=w.heap.size+1) (ItC.mono 2 _ _ _ _ _ _ (fun b q=>⟨by have:=q.1;have:=HSZ.out;omega,q.2⟩) (KeepOn.refl _ _) hcs) (by have:=HSZ.out;omega);have hb6:Below (w.heap.size+1) W0 (w5.alloc (D #[f g 0,r A1 ws.length c1,E false,r C 0 0] 211)):=(((HB1.out.trans (HB5.out.mono hs1)).alloc (by omega) _)).mono (by have:=HSZ.out;omega);clear hcs;go_upto_region 4 with fail
 generalize w5.alloc (D #[f g 0,r A1 ws.length c1,E false,r C 0 0] 211)=wa at *;generalize (r (some ⟨w5.heap.size,0,C⟩) 1 1)=va at *;generalize [f g 0,r A1 ws.length c1,E false,r C 0 0]=ca at *;have HGA:=Hd hg6;have HBA:=Hd hb6;clear hg6 hb6 HB5 HO5 HW5 HLN hcc hs5;have l0':w.heap.size<w.heap.size+1:=Nat.lt_succ_self _;have d1:=(HBA.out.cell (p:=⟨w.heap.size,1,C⟩) l0').trans q1;go_wp2
 go_loopw [3,25] (EncR 1 S.buses.length (w.heap.size+1) W0) (fun _ i _=>S.buses.length-(intOf i).toNat)
 case atStart=>exact ⟨0,_,M _,rfl,HGA.out,rfl,HBA.out⟩
 case round =>
  clear d1 HGA HBA;obtain ⟨k,its,hk,rfl,hg,hlen,hbel⟩:=hrel;have HGR:=Hd hg;have HBW:=Hd hbel;have hlo:=hg.lo;have hilen:its.length≤40:=by omega
  have HLEN:=Hd hlen;clear hg hbel hlen
  by_cases hlt:k<S.buses.length
  · obtain ⟨b,o,nm,hA,hbB,hx,-,hc⟩:=HS.out.buses.strAt hlt
    have hP:P1=some ⟨b,o,C⟩:=HP1.out.symm.trans hA
    subst hP
    have hnm:Wt nm:=Wt.ok (zbF HF.out (by simp only [StatM.names,List.mem_append];exact .inl (P hx)))
    have hbw:b<w.heap.size:=by omega
    have n0:wr.cell? ⟨b,o+k,C⟩=some (l nm):=(HBW.out.cell (p:=⟨b,o+k,C⟩) (by show b<_;omega)).trans ((HB.out.cell (p:=⟨b,o+k,C⟩) hbw).trans hc)
    have hki:(k:Int)<(S.buses.length:Int):=by omega
    have hk0:(0:Int)≤(k:Int):=by omega
    have hbl:b<wr.heap.size:=by omega
    obtain ⟨AV,cV,rfl,-,-⟩:=zac HGR.out.own
    have HNM:=Hd hnm
    clear hx hc hnm hA
    go_wp2_with fail
    refine (zmw [⟨#[98,117,115]⟩,nm] 2 #[.string ⟨#[98,117,115]⟩,.string nm] wr rfl rfl (by decide) (by intro s hs;simp only [H,G,or_false] at hs;rcases hs with rfl | rfl;exact Wt.lit rfl;exact HNM.out)).mono ?_
    rintro e w5 ⟨A1,c1,ws,rfl,hln,hcc,ho5,hw5,hb5⟩
    have HB5:=Hd ((zaa wr (D #[l ⟨#[98,117,115]⟩,l nm] 9)).trans (hb5.mono (by omega)))
    have HIT:=Hd (show ItC 2 w5 (fun b=>wr.heap.size≤b∧b<w5.heap.size) [f g 0,r A1 ws.length c1,E false,r C 0 0] () from zdw ho5 rfl hw5 (by omega) (fun b h1 h2=>⟨by omega,h2⟩))
    clear ho5 hw5 hb5 hln hcc n0
    have HO5:=Hd ((zab HGR.out.own HB5.out (F _)).alloc (D #[f g 0,r A1 ws.length c1,E false,r C 0 0] 211))
    have HS5:=Hd (za5 w5 [f g 0,r A1 ws.length c1,E false,r C 0 0] 211 4 1 rfl)
    have hs5:=HB5.out.size
    go_wp2_with (at_builtin;refine zar (w:=w5.alloc (D #[f g 0,r A1 ws.length c1,E false,r C 0 0] 211)) _ _ 173 rfl rfl Tryz.underlying173 HTJ.out.1 HTJ.out.2.1 HTJ.out.2.2.1 HTJ.out.2.2.2 rfl (by decide) rfl HO5.out rfl HS5.out (by simp [Value.oneCell']) (by unfold maxLen;omega) (by omega) (by simp;omega) ?_)
    intro v9 w9 hown9 hg9 hv9
    have HG9:=Hd (zcj HGR.out HB5.out HIT.out hg9 (by simpa using hv9) (by simpa using hown9))
    have HB9:=Hd ((HBW.out.trans (HB5.out.mono hlo)).trans (((zaa w5 _).mono (by omega)).trans (zaC hg9 (by simp;omega) fun q hq=>(HO5.out.lt q hq).1)))
    clear hown9 hg9 hv9
    obtain ⟨A9,c9,rfl,-,-⟩:=zac HG9.out.own
    go_wp2
    go_roundw
    case rel=>exact ⟨k+1,_,by omega,by go_num,HG9.out,by rw [O,HLEN.out];simp;omega,HB9.out⟩
    case measure=>simp [intOf];omega
  · obtain rfl:k=S.buses.length:=by omega
    obtain ⟨AV,cV,rfl,-,-⟩:=zac HGR.out.own
    have dq:=(HBW.out.cell (p:=⟨w.heap.size,2,C⟩) l0').trans q2
    clear hlt
    go_wp2
    clear dq
    go_loopw [3,39] (EncR (1+S.buses.length) S.lines.length (w.heap.size+1) W0) (fun _ i _=>S.lines.length-(intOf i).toNat)
    case atStart=>exact ⟨0,_,M _,rfl,HGR.out,by have:=HLEN.out;omega,HBW.out⟩
    case round =>
     clear HGR HBW HLEN
     obtain ⟨k,its,hk,rfl,hg,hlen,hbel⟩:=hrel
     have HGR:=Hd hg
     have HBW:=Hd hbel
     have hlo:=hg.lo
     have hilen:its.length≤40:=by omega
     have HLEN:=Hd hlen
     clear hg hbel hlen
     by_cases hlt:k<S.lines.length
     · obtain ⟨b,o,cs,x,hA,hbB,hx,-,⟨rfl,hz⟩,hat⟩:=HS.out.lines.at_ hlt
       have hP:P2=some ⟨b,o,C⟩:=HP2.out.symm.trans hA
       subst hP
       have hbw:b<w.heap.size:=by omega
       have hnm:Wt x.name:=Wt.ok (zbF HF.out (by simp only [StatM.names,List.mem_append,List.mem_map];exact .inr (.inl ⟨x,P hx,rfl⟩)))
       have hcell:∀ j v,[l x.name,f g x.r1,f g x.x1,f g x.r0,f g x.x0][j]? = some v→wr.cell? ⟨b,o+k*5+j,C⟩=some v:=fun j v hv=>(HBW.out.cell (p:=⟨b,o+k*5+j,C⟩) (by show b<_;omega)).trans ((HB.out.cell (p:=⟨b,o+k*5+j,C⟩) hbw).trans (hat j v hv))
       have e0:wr.cell? ⟨b,o+k*5,C⟩=some (l x.name):=hcell 0 _ rfl
       have e1:=hcell 1 _ rfl
       have e2:=hcell 2 _ rfl
       have e3:=hcell 3 _ rfl
       have e4:=hcell 4 _ rfl
       have hfx:=HF.out.lines k x hx
       have h64:(I64 x.r1∧I64 x.x1)∧(I64 x.r0∧I64 x.x0):=by
        obtain ⟨⟨a1,a2,a3,a4⟩,b1,b2,b3,b4⟩:=hfx
        unfold I64;omega
       have hki:(k:Int)<(S.lines.length:Int):=by omega
       have hk0:(0:Int)≤(k:Int):=by omega
       have hbl:b<wr.heap.size:=by omega
       obtain ⟨AV,cV,rfl,-,-⟩:=zac HGR.out.own
       have hbx:=zaa wr (D #[l x.name,f g x.r1,f g x.x1,f g x.r0,f g x.x0] 119)
       have R7:Row (wr.alloc (D #[l x.name,f g x.r1,f g x.x1,f g x.r0,f g x.x0] 119)) wr.heap.size 119 [l x.name,f g x.r1,f g x.x1,f g x.r0,f g x.x0]:=Row.new _ [l x.name,f g x.r1,f g x.x1,f g x.r0,f g x.x0] rfl
       have l7:=R7.lt
       obtain ⟨f0,f1,f2,f3,f4⟩:=kr5 R7
       have HBX:=Hd hbx
       have hsx:=hbx.size
       have HNM:=Hd hnm
       have H64:=Hd h64
       have HT4:=Hd (HT.out.below (HB.out.trans ((HBW.out.mono (Nat.le_succ _)).trans (hbx.mono (by omega)))) HT.out.2)
       have HGX:=Hd (HGR.out.below hbx (F _))
       clear hcell hat hx hA hfx h64 hnm hbx R7 hz
       go_upto_region 12 with fail
       clear e0 e1 e2 e3 e4
       generalize wr.alloc (D #[l x.name,f g x.r1,f g x.x1,f g x.r0,f g x.x0] 119)=w4 at *
       have HOH:=Hd (show ∀ (W':World) (k:Nat),Tab W'→Row W' k 110 [f g x.r1,f g x.x1,f g x.r0,f g x.x0]→Calls Tryz.prog 119 #[r (some ⟨k,0,C⟩) 2 2] W' (zeP 4 W') from fun W' k T' R' =>
        zhA (fun b=>b=k) (some ⟨k,0,C⟩) 2 [(x.r1,x.x1),(x.r0,x.x0)] W' T' (zjR R' H64.out.1 H64.out.2) (by simp) (fun b hb=>by subst hb;exact R'.lt))
       have HBA:=Hd (((zaa w4 (D #[l ⟨#[108,105,110,101]⟩,l x.name] 9)).alloc (by simp) (D #[f g x.r1,f g x.x1,f g x.r0,f g x.x0] 110)).drew)
       have HTA:=Hd (HT4.out.below HBA.out (J HT.out.2 (by have:=HB.out.size;have:=HBW.out.size;omega)))
       have HRA:=Hd ((Row.new (w:=w4.alloc (D #[l ⟨#[108,105,110,101]⟩,l x.name] 9)) (t := 110) (w4.heap.size+1) [f g x.r1,f g x.x1,f g x.r0,f g x.x0] (by simp)).drew)
       have HLA:=Hd (zdC ((zby w4 [l ⟨#[108,105,110,101]⟩,l x.name] 9 1 2 rfl (by unfold maxLen;omega)).alloc (D #[f g x.r1,f g x.x1,f g x.r0,f g x.x0] 110)))
       have HBB:=Hd (((zaa w4 (D #[f g x.r1,f g x.x1,f g x.r0,f g x.x0] 110)).alloc (by simp) (D #[l ⟨#[108,105,110,101]⟩,l x.name] 9)).drew)
       have HTB:=Hd (HT4.out.below HBB.out (J HT.out.2 (by have:=HB.out.size;have:=HBW.out.size;omega)))
       have HRB:=Hd (((Row.new (w:=w4) (t := 110) w4.heap.size [f g x.r1,f g x.x1,f g x.r0,f g x.x0] rfl).below (zaa _ (D #[l ⟨#[108,105,110,101]⟩,l x.name] 9)) (by simp)).drew)
       have hlb:=zdC (zao (zby (w4.alloc (D #[f g x.r1,f g x.x1,f g x.r0,f g x.x0] 110)) [l ⟨#[108,105,110,101]⟩,l x.name] 9 1 2 rfl (by unfold maxLen;omega)) (base':=w4.heap.size) (by simp))
       rw [Q] at hlb
       have HLB:=Hd hlb
       clear hlb
       have HBC:=Hd ((zaa w4 (D #[f g x.r1,f g x.x1,f g x.r0,f g x.x0] 110)).drew)
       have HTC:=Hd (HT4.out.below HBC.out (J HT.out.2 (by have:=HB.out.size;have:=HBW.out.size;omega)))
       have HRC:=Hd ((Row.new (w:=w4) (t := 110) w4.heap.size [f g x.r1,f g x.x1,f g x.r0,f g x.x0] rfl).drew)
       have hne1:wr.heap.size≠w4.heap.size:=Nat.ne_of_lt l7
       have hne2:=hne1.symm
       have hne3:wr.heap.size≠w4.heap.size+1:=by omega
       have hne4:=hne3.symm
       go_cut [8] from 43 to 52 (fun v wx=>WdsR 6 w4 v wx)
       case first =>
        first
        | (go_region_held3 (fun w'=>w'.cell? ⟨wr.heap.size,0,C⟩=some (l x.name)∧w'.cell? ⟨wr.heap.size,1,C⟩=some (f g x.r1)∧w'.cell? ⟨wr.heap.size,2,C⟩=some (f g x.x1)∧w'.cell? ⟨wr.heap.size,3,C⟩=some (f g x.r0)∧w'.cell? ⟨wr.heap.size,4,C⟩=some (f g x.x0)) (go_keep) (first
          | ((go_at_call 119;(with_reducible refine (HOH.out _ _ HTA.out HRA.out).mono ?_);rintro e w6 ⟨A6,c6,ss,rfl,hss,hc6,hw6,ho6,hb6⟩;have hsA:=HBA.out.size;have HB6:=Hd (HBA.out.trans (hb6.mono hsA));have HSS:=Hd hss;have HW6:=Hd hw6;obtain ⟨g0,g1,g2,g3,g4⟩:=kb5 HB6.out l7 ⟨f0,f1,f2,f3,f4⟩;have HON:=Hd (show ∀ u∈ss.map l,u.oneCell'=true from by intro u hu;obtain ⟨y,-,rfl⟩:=List.mem_map.1 hu;rfl);have HOW6:=Hd (zab HLA.out hb6 (F _));have HSR6:=Hd (Src.of_own ho6);have hs6:w4.heap.size≤w6.heap.size:=HB6.out.size;have HBY:=Hd HB6.out;clear hss hw6 ho6 hb6))
          | ((go_at_call 119;(with_reducible refine (HOH.out _ _ HTB.out HRB.out).mono ?_);rintro e w6 ⟨A6,c6,ss,rfl,hss,hc6,hw6,ho6,hb6⟩;have hsA:=HBB.out.size;have HB6:=Hd (HBB.out.trans (hb6.mono hsA));have HSS:=Hd hss;have HW6:=Hd hw6;obtain ⟨g0,g1,g2,g3,g4⟩:=kb5 HB6.out l7 ⟨f0,f1,f2,f3,f4⟩;have HON:=Hd (show ∀ u∈ss.map l,u.oneCell'=true from by intro u hu;obtain ⟨y,-,rfl⟩:=List.mem_map.1 hu;rfl);have HOW6:=Hd (zab HLB.out hb6 (F _));have HSR6:=Hd (Src.of_own ho6);have hs6:w4.heap.size≤w6.heap.size:=HB6.out.size;have HBY:=Hd HB6.out;clear hss hw6 ho6 hb6))
          | ((go_at_call 119;(with_reducible refine (HOH.out _ _ HTC.out HRC.out).mono ?_);rintro e w6 ⟨A6,c6,ss,rfl,hss,hc6,hw6,ho6,hb6⟩;have hsA:=HBC.out.size;have HB6:=Hd (HBC.out.trans (hb6.mono hsA));have HSS:=Hd hss;have HW6:=Hd hw6;obtain ⟨g0,g1,g2,g3,g4⟩:=kb5 HB6.out l7 ⟨f0,f1,f2,f3,f4⟩;have HON:=Hd (show ∀ u∈ss.map l,u.oneCell'=true from by intro u hu;obtain ⟨y,-,rfl⟩:=List.mem_map.1 hu;rfl);have hs60:=HB6.out.size;have HOW6:=Hd (zao (zby w6 [l ⟨#[108,105,110,101]⟩,l x.name] 9 1 2 rfl (by unfold maxLen;omega)) (base':=w4.heap.size) hs60);have HSR6:=Hd (Src.of_own (ho6.alloc (D #[l ⟨#[108,105,110,101]⟩,l x.name] 9)));have HBY:=Hd (HB6.out.alloc hs60 (D #[l ⟨#[108,105,110,101]⟩,l x.name] 9));have hs6:w4.heap.size≤(w6.alloc (D #[l ⟨#[108,105,110,101]⟩,l x.name] 9)).heap.size:=HBY.out.size;clear hss hw6 ho6 hb6))
          | ((refine zai (o:=⟨some 52,_,_,_,_,_⟩) (w:=w6) _ _ 22 rfl rfl Tryz.underlying22 HTI.out.1 HTI.out.2.1 HTI.out.2.2.1 HTI.out.2.2.2 rfl (by decide) rfl HOW6.out rfl HSR6.out HON.out (by unfold maxLen;omega) (by omega) hs6 ?_;intro v8 w8 hown8 hg8 hv8;obtain ⟨A8,k8,hv8e,-,-⟩:=zac hown8;subst hv8e;have HB8:=Hd (HBY.out.trans (zaC hg8 hs6 fun q hq=>(HOW6.out.lt q hq).1));obtain ⟨k0,k1,k2,k3,k4⟩:=kb5 HB8.out l7 ⟨f0,f1,f2,f3,f4⟩;have HWD:=Hd (show WdsR 6 w4 (.slice A8 6 k8) w8 from ⟨A8,k8,[⟨#[108,105,110,101]⟩,x.name]++ss,rfl,by simp [HSS.out],(by intro s hs;simp only [H,List.mem_append,G,or_false] at hs;rcases hs with (rfl | rfl) | hs;exact Wt.lit rfl;exact HNM.out;exact HW6.out s hs),by simpa using hown8,HB8.out⟩);clear hown8 hg8 hv8))
          | ((refine zai (o:=⟨some 52,_,_,_,_,_⟩) (w:=w6.alloc (D #[.string ⟨#[108,105,110,101]⟩,.string x.name] 9)) _ _ 22 rfl rfl Tryz.underlying22 HTI.out.1 HTI.out.2.1 HTI.out.2.2.1 HTI.out.2.2.2 rfl (by decide) rfl HOW6.out rfl HSR6.out HON.out (by unfold maxLen;omega) (by omega) hs6 ?_;intro v8 w8 hown8 hg8 hv8;obtain ⟨A8,k8,hv8e,-,-⟩:=zac hown8;subst hv8e;have HB8:=Hd (HBY.out.trans (zaC hg8 hs6 fun q hq=>(HOW6.out.lt q hq).1));obtain ⟨k0,k1,k2,k3,k4⟩:=kb5 HB8.out l7 ⟨f0,f1,f2,f3,f4⟩;have HWD:=Hd (show WdsR 6 w4 (.slice A8 6 k8) w8 from ⟨A8,k8,[⟨#[108,105,110,101]⟩,x.name]++ss,rfl,by simp [HSS.out],(by intro s hs;simp only [H,List.mem_append,G,or_false] at hs;rcases hs with (rfl | rfl) | hs;exact Wt.lit rfl;exact HNM.out;exact HW6.out s hs),by simpa using hown8,HB8.out⟩);clear hown8 hg8 hv8))
          ))
        | fail
        all_goals
         go_wp2
         go_meet
         exact HWD.out
       case rest =>
        obtain ⟨A8,k8,xs,rfl,hxs,hwx,hox,hbc⟩:=hcut
        have HST:=Hd (zeg (W:=wc) hox hxs hwx (by omega) wc rfl)
        have HBC:=Hd (HBX.out.trans (hbc.mono hsx))
        clear hxs hwx hox hbc f0 f1 f2 f3 f4
        go_wp2_with fail
        refine HST.out.mono ?_
        rintro e w5 ⟨A1,c1,ws,rfl,hln,hcc,ho5,hw5,hb5⟩
        have HB5:=Hd (HBC.out.trans (hb5.mono HBC.out.size))
        have HIT:=Hd (show ItC 2 w5 (fun b=>wr.heap.size≤b∧b<w5.heap.size) [f g 0,r A1 ws.length c1,E false,r C 0 0] () from zdw ho5 rfl hw5 (by omega) (fun b h1 h2=>⟨K HBC.out.size h1,h2⟩))
        clear ho5 hw5 hb5 hln hcc
        have HO5:=Hd ((zab HGR.out.own HB5.out (F _)).alloc (D #[f g 0,r A1 ws.length c1,E false,r C 0 0] 211))
        have HS5:=Hd (za5 w5 [f g 0,r A1 ws.length c1,E false,r C 0 0] 211 4 1 rfl)
        have hs5:=HB5.out.size
        go_wp2_with (at_builtin;refine zar (w:=w5.alloc (D #[f g 0,r A1 ws.length c1,E false,r C 0 0] 211)) _ _ 173 rfl rfl Tryz.underlying173 HTJ.out.1 HTJ.out.2.1 HTJ.out.2.2.1 HTJ.out.2.2.2 rfl (by decide) rfl HO5.out rfl HS5.out (by simp [Value.oneCell']) (by unfold maxLen;omega) (by omega) (by simp;omega) ?_)
        intro v9 w9 hown9 hg9 hv9
        have HG9:=Hd (zcj HGR.out HB5.out HIT.out hg9 (by simpa using hv9) (by simpa using hown9))
        have HB9:=Hd ((HBW.out.trans (HB5.out.mono hlo)).trans (((zaa w5 _).mono (by omega)).trans (zaC hg9 (by simp;omega) fun q hq=>(HO5.out.lt q hq).1)))
        clear hown9 hg9 hv9
        obtain ⟨A9,c9,rfl,-,-⟩:=zac HG9.out.own
        go_wp2
        go_roundw
        case rel=>exact ⟨k+1,_,by omega,by go_num,HG9.out,by rw [O,HLEN.out];simp;omega,HB9.out⟩
        case measure=>simp [intOf];omega
     · obtain rfl:k=S.lines.length:=by omega
       obtain ⟨AV,cV,rfl,-,-⟩:=zac HGR.out.own
       have dq:=(HBW.out.cell (p:=⟨w.heap.size,3,C⟩) l0').trans q3
       clear hlt
       go_wp2
       clear dq
       go_loopw [3,62] (EncR (1+S.buses.length+S.lines.length) S.sources.length (w.heap.size+1) W0) (fun _ i _=>S.sources.length-(intOf i).toNat)
       case atStart=>exact ⟨0,_,M _,rfl,HGR.out,by have:=HLEN.out;omega,HBW.out⟩
       case round =>
        clear HGR HBW HLEN
        obtain ⟨k,its,hk,rfl,hg,hlen,hbel⟩:=hrel
        have HGR:=Hd hg
        have HBW:=Hd hbel
        have hlo:=hg.lo
        have hilen:its.length≤40:=by omega
        have HLEN:=Hd hlen
        clear hg hbel hlen
        by_cases hlt:k<S.sources.length
        · obtain ⟨b,o,cs,x,hA,hbB,hx,-,⟨rfl,hz⟩,hat⟩:=HS.out.sources.at_ hlt
          have hP:P3=some ⟨b,o,C⟩:=HP3.out.symm.trans hA
          subst hP
          have hbw:b<w.heap.size:=by omega
          have hnm:Wt x.name:=Wt.ok (zbF HF.out (by simp only [StatM.names,List.mem_append,List.mem_map];exact .inr (.inr (.inl ⟨x,P hx,rfl⟩))))
          have hcell:∀ j v,[l x.name,f g x.emf,f g x.r1,f g x.x1,f g x.r0,f g x.x0][j]? = some v→wr.cell? ⟨b,o+k*6+j,C⟩=some v:=fun j v hv=>(HBW.out.cell (p:=⟨b,o+k*6+j,C⟩) (by show b<_;omega)).trans ((HB.out.cell (p:=⟨b,o+k*6+j,C⟩) hbw).trans (hat j v hv))
          have e0:wr.cell? ⟨b,o+k*6,C⟩=some (l x.name):=hcell 0 _ rfl
          have e1:=hcell 1 _ rfl
          have e2:=hcell 2 _ rfl
          have e3:=hcell 3 _ rfl
          have e4:=hcell 4 _ rfl
          have e5:=hcell 5 _ rfl
          have hfx:=HF.out.sources k x hx
          have h64:(I64 x.r1∧I64 x.x1)∧(I64 x.r0∧I64 x.x0)∧I64 x.emf:=by
           obtain ⟨⟨a0,b0⟩,⟨a1,a2,a3,a4⟩,b1,b2,b3,b4⟩:=hfx
           unfold I64;omega
          have hki:(k:Int)<(S.sources.length:Int):=by omega
          have hk0:(0:Int)≤(k:Int):=by omega
          have hbl:b<wr.heap.size:=by omega
          obtain ⟨AV,cV,rfl,-,-⟩:=zac HGR.out.own
          have hbx:=zaa wr (D #[l x.name,f g x.emf,f g x.r1,f g x.x1,f g x.r0,f g x.x0] 122)
          have R7:Row (wr.alloc (D #[l x.name,f g x.emf,f g x.r1,f g x.x1,f g x.r0,f g x.x0] 122)) wr.heap.size 122 [l x.name,f g x.emf,f g x.r1,f g x.x1,f g x.r0,f g x.x0]:=Row.new _ [l x.name,f g x.emf,f g x.r1,f g x.x1,f g x.r0,f g x.x0] rfl
          have l7:=R7.lt
          obtain ⟨f0,f1,f2,f3,f4,f5⟩:=kr6 R7
          have HBX:=Hd hbx
          have hsx:=hbx.size
          have HNM:=Hd hnm
          have H64:=Hd h64
          have HT4:=Hd (HT.out.below (HB.out.trans ((HBW.out.mono (Nat.le_succ _)).trans (hbx.mono (by omega)))) HT.out.2)
          have HGX:=Hd (HGR.out.below hbx (F _))
          clear hcell hat hx hA hfx h64 hnm hbx R7 hz
          go_upto_region 18 with fail
          clear e0 e1 e2 e3 e4 e5
          generalize wr.alloc (D #[l x.name,f g x.emf,f g x.r1,f g x.x1,f g x.r0,f g x.x0] 122)=w4 at *
          have HOH:=Hd (show ∀ (W':World) (k:Nat),Tab W'→Row W' k 110 [f g x.r1,f g x.x1,f g x.r0,f g x.x0]→Calls Tryz.prog 119 #[r (some ⟨k,0,C⟩) 2 2] W' (zeP 4 W') from fun W' k T' R' =>
           zhA (fun b=>b=k) (some ⟨k,0,C⟩) 2 [(x.r1,x.x1),(x.r0,x.x0)] W' T' (zjR R' H64.out.1 H64.out.2.1) (by simp) (fun b hb=>by subst hb;exact R'.lt))
          have hne1:wr.heap.size≠w4.heap.size:=Nat.ne_of_lt l7
          have hne2:=hne1.symm
          have hne3:wr.heap.size≠w4.heap.size+1:=by omega
          have hne4:=hne3.symm
          have HC0:=Hd (fun W (TW:Tab W)=>zcg x.emf H64.out.2.2 W TW)
          have HBM:=Hd ((zaa w4 (D #[f g x.r1,f g x.x1,f g x.r0,f g x.x0] 110)).drew)
          have HTM:=Hd (HT4.out.below HBM.out (J HT.out.2 (by have:=HB.out.size;have:=HBW.out.size;omega)))
          have HRM:=Hd ((Row.new (w:=w4) (t := 110) w4.heap.size [f g x.r1,f g x.x1,f g x.r0,f g x.x0] rfl).drew)
          have hT4 : 0 < w4.heap.size:=J HT.out.2 (by have:=HB.out.size;have:=HBW.out.size;omega)
          go_cut [11] from 66 to 78 (fun v wx=>WdsR 7 w4 v wx)
          case first =>
           first
           | (go_region_held3 (fun w'=>w'.cell? ⟨wr.heap.size,0,C⟩=some (l x.name)∧w'.cell? ⟨wr.heap.size,1,C⟩=some (f g x.emf)∧w'.cell? ⟨wr.heap.size,2,C⟩=some (f g x.r1)∧w'.cell? ⟨wr.heap.size,3,C⟩=some (f g x.x1)∧w'.cell? ⟨wr.heap.size,4,C⟩=some (f g x.r0)∧w'.cell? ⟨wr.heap.size,5,C⟩=some (f g x.x0)) (go_keep) (first
             | ((go_at_call 120;(with_reducible refine (HC0.out _ (HT4.out.drew)).mono ?_);rintro e w5 ⟨s5,rfl,hw5,hb5⟩;have HW5:=Hd hw5;have HX5:=Hd (show Below w4.heap.size w4 w5 from (Below.refl _ w4).drew.trans hb5);have hs5:=HX5.out.size;obtain ⟨i0,i1,i2,i3,i4,i5⟩:=kb6 HX5.out l7 ⟨f0,f1,f2,f3,f4,f5⟩;have hn5:wr.heap.size≠w5.heap.size:=(by omega);have hn5':=hn5.symm;have HBA:=Hd (show Below w4.heap.size w4 ((w5.alloc (D #[l ⟨#[115,111,117,114,99,101]⟩,l x.name,l s5] 9)).alloc (D #[f g x.r1,f g x.x1,f g x.r0,f g x.x0] 110)) from (HX5.out.alloc hs5 _).alloc (by first | (simp;done) | (simp;omega)) _);have HTA:=Hd (HT4.out.below HBA.out hT4);have HRA:=Hd (Row.new (w:=w5.alloc (D #[l ⟨#[115,111,117,114,99,101]⟩,l x.name,l s5] 9)) (t := 110) (w5.heap.size+1) [f g x.r1,f g x.x1,f g x.r0,f g x.x0] (by simp));have HLA:=Hd (zao ((zby w5 [l ⟨#[115,111,117,114,99,101]⟩,l x.name,l s5] 9 1 3 rfl (by unfold maxLen;omega)).alloc (D #[f g x.r1,f g x.x1,f g x.r0,f g x.x0] 110)) hs5);have HBB:=Hd (show Below w4.heap.size w4 ((w5.alloc (D #[f g x.r1,f g x.x1,f g x.r0,f g x.x0] 110)).alloc (D #[l ⟨#[115,111,117,114,99,101]⟩,l x.name,l s5] 9)) from (HX5.out.alloc hs5 _).alloc (by first | (simp;done) | (simp;omega)) _);have HTB:=Hd (HT4.out.below HBB.out hT4);have HRB:=Hd ((Row.new (w:=w5) (t := 110) w5.heap.size [f g x.r1,f g x.x1,f g x.r0,f g x.x0] rfl).below (zaa _ (D #[l ⟨#[115,111,117,114,99,101]⟩,l x.name,l s5] 9)) (by simp));have hlb:=zao (zby (w5.alloc (D #[f g x.r1,f g x.x1,f g x.r0,f g x.x0] 110)) [l ⟨#[115,111,117,114,99,101]⟩,l x.name,l s5] 9 1 3 rfl (by unfold maxLen;omega)) (base':=w4.heap.size) (by first | (simp;done) | (simp;omega));rw [Q] at hlb;have HLB:=Hd hlb;clear hlb;have HBC:=Hd (show Below w4.heap.size w4 (w5.alloc (D #[f g x.r1,f g x.x1,f g x.r0,f g x.x0] 110)) from HX5.out.alloc hs5 _);have HTC:=Hd (HT4.out.below HBC.out hT4);have HRC:=Hd (Row.new (w:=w5) (t := 110) w5.heap.size [f g x.r1,f g x.x1,f g x.r0,f g x.x0] rfl);clear hw5 hb5))
             | ((go_at_call 120;(with_reducible refine (HC0.out _ (HTM.out)).mono ?_);rintro e w5 ⟨s5,rfl,hw5,hb5⟩;have HW5:=Hd hw5;have HX5:=Hd (show Below w4.heap.size w4 w5 from HBM.out.trans (hb5.mono HBM.out.size));have hs5:=HX5.out.size;obtain ⟨i0,i1,i2,i3,i4,i5⟩:=kb6 HX5.out l7 ⟨f0,f1,f2,f3,f4,f5⟩;have hn5:wr.heap.size≠w5.heap.size:=(by omega);have hn5':=hn5.symm;have HRX:=Hd (HRM.out.below hb5 HRM.out.lt);have HBD:=Hd (show Below w4.heap.size w4 (w5.alloc (D #[l ⟨#[115,111,117,114,99,101]⟩,l x.name,l s5] 9)) from HX5.out.alloc hs5 _);have HTD:=Hd (HT4.out.below HBD.out hT4);have HRD:=Hd (HRX.out.below (zaa w5 (D #[l ⟨#[115,111,117,114,99,101]⟩,l x.name,l s5] 9)) HRX.out.lt);have HLD:=Hd (zao (zby w5 [l ⟨#[115,111,117,114,99,101]⟩,l x.name,l s5] 9 1 3 rfl (by unfold maxLen;omega)) hs5);have HBE:=Hd (show Below w4.heap.size w4 (w5) from HX5.out);have HTE:=Hd (HT4.out.below HBE.out hT4);have HRE:=Hd (HRX.out);clear hw5 hb5))
             | ((go_at_call 119;(with_reducible refine (HOH.out _ _ HTA.out HRA.out).mono ?_);rintro e w6 ⟨A6,c6,ss,rfl,hss,hc6,hw6,ho6,hb6⟩;have hsA:=HBA.out.size;have HB6:=Hd (HBA.out.trans (hb6.mono hsA));have HSS:=Hd hss;have HW6:=Hd hw6;obtain ⟨g0,g1,g2,g3,g4,g5⟩:=kb6 HB6.out l7 ⟨f0,f1,f2,f3,f4,f5⟩;have HON:=Hd (show ∀ u∈ss.map l,u.oneCell'=true from by intro u hu;obtain ⟨y,-,rfl⟩:=List.mem_map.1 hu;rfl);have hs60:=HB6.out.size;have hn6:wr.heap.size≠w6.heap.size:=(by omega);have hn6':=hn6.symm;have HOW6:=Hd (zab HLA.out hb6 (F _));have HSR6:=Hd (Src.of_own ho6);have hs6:w4.heap.size≤w6.heap.size:=HB6.out.size;have HBY:=Hd HB6.out;clear hss hw6 ho6 hb6))
             | ((go_at_call 119;(with_reducible refine (HOH.out _ _ HTB.out HRB.out).mono ?_);rintro e w6 ⟨A6,c6,ss,rfl,hss,hc6,hw6,ho6,hb6⟩;have hsA:=HBB.out.size;have HB6:=Hd (HBB.out.trans (hb6.mono hsA));have HSS:=Hd hss;have HW6:=Hd hw6;obtain ⟨g0,g1,g2,g3,g4,g5⟩:=kb6 HB6.out l7 ⟨f0,f1,f2,f3,f4,f5⟩;have HON:=Hd (show ∀ u∈ss.map l,u.oneCell'=true from by intro u hu;obtain ⟨y,-,rfl⟩:=List.mem_map.1 hu;rfl);have hs60:=HB6.out.size;have hn6:wr.heap.size≠w6.heap.size:=(by omega);have hn6':=hn6.symm;have HOW6:=Hd (zab HLB.out hb6 (F _));have HSR6:=Hd (Src.of_own ho6);have hs6:w4.heap.size≤w6.heap.size:=HB6.out.size;have HBY:=Hd HB6.out;clear hss hw6 ho6 hb6))
             | ((go_at_call 119;(with_reducible refine (HOH.out _ _ HTC.out HRC.out).mono ?_);rintro e w6 ⟨A6,c6,ss,rfl,hss,hc6,hw6,ho6,hb6⟩;have hsA:=HBC.out.size;have HB6:=Hd (HBC.out.trans (hb6.mono hsA));have HSS:=Hd hss;have HW6:=Hd hw6;obtain ⟨g0,g1,g2,g3,g4,g5⟩:=kb6 HB6.out l7 ⟨f0,f1,f2,f3,f4,f5⟩;have HON:=Hd (show ∀ u∈ss.map l,u.oneCell'=true from by intro u hu;obtain ⟨y,-,rfl⟩:=List.mem_map.1 hu;rfl);have hs60:=HB6.out.size;have hn6:wr.heap.size≠w6.heap.size:=(by omega);have hn6':=hn6.symm;have HOW6:=Hd (zao (zby w6 [l ⟨#[115,111,117,114,99,101]⟩,l x.name,l s5] 9 1 3 rfl (by unfold maxLen;omega)) (base':=w4.heap.size) hs60);have HSR6:=Hd (Src.of_own (ho6.alloc (D #[l ⟨#[115,111,117,114,99,101]⟩,l x.name,l s5] 9)));have HBY:=Hd (HB6.out.alloc hs60 (D #[l ⟨#[115,111,117,114,99,101]⟩,l x.name,l s5] 9));have hs6:w4.heap.size≤(w6.alloc (D #[l ⟨#[115,111,117,114,99,101]⟩,l x.name,l s5] 9)).heap.size:=HBY.out.size;clear hss hw6 ho6 hb6))
             | ((go_at_call 119;(with_reducible refine (HOH.out _ _ HTD.out HRD.out).mono ?_);rintro e w6 ⟨A6,c6,ss,rfl,hss,hc6,hw6,ho6,hb6⟩;have hsA:=HBD.out.size;have HB6:=Hd (HBD.out.trans (hb6.mono hsA));have HSS:=Hd hss;have HW6:=Hd hw6;obtain ⟨g0,g1,g2,g3,g4,g5⟩:=kb6 HB6.out l7 ⟨f0,f1,f2,f3,f4,f5⟩;have HON:=Hd (show ∀ u∈ss.map l,u.oneCell'=true from by intro u hu;obtain ⟨y,-,rfl⟩:=List.mem_map.1 hu;rfl);have hs60:=HB6.out.size;have hn6:wr.heap.size≠w6.heap.size:=(by omega);have hn6':=hn6.symm;have HOW6:=Hd (zab HLD.out hb6 (F _));have HSR6:=Hd (Src.of_own ho6);have hs6:w4.heap.size≤w6.heap.size:=HB6.out.size;have HBY:=Hd HB6.out;clear hss hw6 ho6 hb6))
             | ((go_at_call 119;(with_reducible refine (HOH.out _ _ HTE.out HRE.out).mono ?_);rintro e w6 ⟨A6,c6,ss,rfl,hss,hc6,hw6,ho6,hb6⟩;have hsA:=HBE.out.size;have HB6:=Hd (HBE.out.trans (hb6.mono hsA));have HSS:=Hd hss;have HW6:=Hd hw6;obtain ⟨g0,g1,g2,g3,g4,g5⟩:=kb6 HB6.out l7 ⟨f0,f1,f2,f3,f4,f5⟩;have HON:=Hd (show ∀ u∈ss.map l,u.oneCell'=true from by intro u hu;obtain ⟨y,-,rfl⟩:=List.mem_map.1 hu;rfl);have hs60:=HB6.out.size;have hn6:wr.heap.size≠w6.heap.size:=(by omega);have hn6':=hn6.symm;have HOW6:=Hd (zao (zby w6 [l ⟨#[115,111,117,114,99,101]⟩,l x.name,l s5] 9 1 3 rfl (by unfold maxLen;omega)) (base':=w4.heap.size) hs60);have HSR6:=Hd (Src.of_own (ho6.alloc (D #[l ⟨#[115,111,117,114,99,101]⟩,l x.name,l s5] 9)));have HBY:=Hd (HB6.out.alloc hs60 (D #[l ⟨#[115,111,117,114,99,101]⟩,l x.name,l s5] 9));have hs6:w4.heap.size≤(w6.alloc (D #[l ⟨#[115,111,117,114,99,101]⟩,l x.name,l s5] 9)).heap.size:=HBY.out.size;clear hss hw6 ho6 hb6))
             | ((refine zai (o:=⟨some 78,_,_,_,_,_⟩) (w:=w6) _ _ 22 rfl rfl Tryz.underlying22 HTI.out.1 HTI.out.2.1 HTI.out.2.2.1 HTI.out.2.2.2 rfl (by decide) rfl HOW6.out rfl HSR6.out HON.out (by unfold maxLen;omega) (by omega) hs6 ?_;intro v8 w8 hown8 hg8 hv8;obtain ⟨A8,k8,hv8e,-,-⟩:=zac hown8;subst hv8e;have HB8:=Hd (HBY.out.trans (zaC hg8 hs6 fun q hq=>(HOW6.out.lt q hq).1));obtain ⟨k0,k1,k2,k3,k4,k5⟩:=kb6 HB8.out l7 ⟨f0,f1,f2,f3,f4,f5⟩;have HWD:=Hd (show WdsR 7 w4 (.slice A8 7 k8) w8 from ⟨A8,k8,[⟨#[115,111,117,114,99,101]⟩,x.name,s5]++ss,rfl,by simp [HSS.out],(by intro s hs;simp only [H,List.mem_append,G,or_false] at hs;rcases hs with (rfl | rfl | rfl) | hs;exact Wt.lit rfl;exact HNM.out;exact HW5.out;exact HW6.out s hs),by simpa using hown8,HB8.out⟩);clear hown8 hg8 hv8))
             | ((refine zai (o:=⟨some 78,_,_,_,_,_⟩) (w:=w6.alloc (D #[.string ⟨#[115,111,117,114,99,101]⟩,.string x.name,.string s5] 9)) _ _ 22 rfl rfl Tryz.underlying22 HTI.out.1 HTI.out.2.1 HTI.out.2.2.1 HTI.out.2.2.2 rfl (by decide) rfl HOW6.out rfl HSR6.out HON.out (by unfold maxLen;omega) (by omega) hs6 ?_;intro v8 w8 hown8 hg8 hv8;obtain ⟨A8,k8,hv8e,-,-⟩:=zac hown8;subst hv8e;have HB8:=Hd (HBY.out.trans (zaC hg8 hs6 fun q hq=>(HOW6.out.lt q hq).1));obtain ⟨k0,k1,k2,k3,k4,k5⟩:=kb6 HB8.out l7 ⟨f0,f1,f2,f3,f4,f5⟩;have HWD:=Hd (show WdsR 7 w4 (.slice A8 7 k8) w8 from ⟨A8,k8,[⟨#[115,111,117,114,99,101]⟩,x.name,s5]++ss,rfl,by simp [HSS.out],(by intro s hs;simp only [H,List.mem_append,G,or_false] at hs;rcases hs with (rfl | rfl | rfl) | hs;exact Wt.lit rfl;exact HNM.out;exact HW5.out;exact HW6.out s hs),by simpa using hown8,HB8.out⟩);clear hown8 hg8 hv8))
             ))
           | fail
           all_goals
            go_wp2
            go_meet
            exact HWD.out
          case rest =>
           obtain ⟨A8,k8,xs,rfl,hxs,hwx,hox,hbc⟩:=hcut
           have HST:=Hd (zeg (W:=wc) hox hxs hwx (by omega) wc rfl)
           have HBC:=Hd (HBX.out.trans (hbc.mono hsx))
           clear hxs hwx hox hbc f0 f1 f2 f3 f4 f5
           go_wp2_with fail
           refine HST.out.mono ?_
           rintro e w5 ⟨A1,c1,ws,rfl,hln,hcc,ho5,hw5,hb5⟩
           have HB5:=Hd (HBC.out.trans (hb5.mono HBC.out.size))
           have HIT:=Hd (show ItC 2 w5 (fun b=>wr.heap.size≤b∧b<w5.heap.size) [f g 0,r A1 ws.length c1,E false,r C 0 0] () from zdw ho5 rfl hw5 (by omega) (fun b h1 h2=>⟨K HBC.out.size h1,h2⟩))
           clear ho5 hw5 hb5 hln hcc
           have HO5:=Hd ((zab HGR.out.own HB5.out (F _)).alloc (D #[f g 0,r A1 ws.length c1,E false,r C 0 0] 211))
           have HS5:=Hd (za5 w5 [f g 0,r A1 ws.length c1,E false,r C 0 0] 211 4 1 rfl)
           have hs5:=HB5.out.size
           go_wp2_with (at_builtin;refine zar (w:=w5.alloc (D #[f g 0,r A1 ws.length c1,E false,r C 0 0] 211)) _ _ 173 rfl rfl Tryz.underlying173 HTJ.out.1 HTJ.out.2.1 HTJ.out.2.2.1 HTJ.out.2.2.2 rfl (by decide) rfl HO5.out rfl HS5.out (by simp [Value.oneCell']) (by unfold maxLen;omega) (by omega) (by simp;omega) ?_)
           intro v9 w9 hown9 hg9 hv9
           have HG9:=Hd (zcj HGR.out HB5.out HIT.out hg9 (by simpa using hv9) (by simpa using hown9))
           have HB9:=Hd ((HBW.out.trans (HB5.out.mono hlo)).trans (((zaa w5 _).mono (by omega)).trans (zaC hg9 (by simp;omega) fun q hq=>(HO5.out.lt q hq).1)))
           clear hown9 hg9 hv9
           obtain ⟨A9,c9,rfl,-,-⟩:=zac HG9.out.own
           go_wp2
           go_roundw
           case rel=>exact ⟨k+1,_,by omega,by go_num,HG9.out,by rw [O,HLEN.out];simp;omega,HB9.out⟩
           case measure=>simp [intOf];omega
        · obtain rfl:k=S.sources.length:=by omega
          obtain ⟨AV,cV,rfl,-,-⟩:=zac HGR.out.own
          have dq:=(HBW.out.cell (p:=⟨w.heap.size,4,C⟩) l0').trans q4
          clear hlt
          go_wp2
          clear dq
          go_loopw [3,88] (EncR (1+S.buses.length+S.lines.length+S.sources.length) S.bays.length (w.heap.size+1) W0) (fun _ i _=>S.bays.length-(intOf i).toNat)
          case atStart=>exact ⟨0,_,M _,rfl,HGR.out,by have:=HLEN.out;omega,HBW.out⟩
          case round =>
           clear HGR HBW HLEN
           obtain ⟨k,its,hk,rfl,hg,hlen,hbel⟩:=hrel
           have HGR:=Hd hg
           have HBW:=Hd hbel
           have hlo:=hg.lo
           have hilen:its.length≤40:=by omega
           have HLEN:=Hd hlen
           clear hg hbel hlen
           by_cases hlt:k<S.bays.length
           · obtain ⟨b,o,cs,x,hA,hbB,hx,-,⟨AL,cL,rfl,hz1,hz2,hz3,hz4⟩,hat⟩:=HS.out.bays.at_ hlt
             have hP:P4=some ⟨b,o,C⟩:=HP4.out.symm.trans hA
             subst hP
             have hbw:b<w.heap.size:=by omega
             have hcell:∀ j v,[l x.name,f g x.kind,f g x.ofi,f g x.en,f g x.zr,f g x.zx,r AL x.links.length cL,E x.closed,f g x.ct,f g x.vt,f g x.sat,f g x.travel][j]? = some v→wr.cell? ⟨b,o+k*12+j,C⟩=some v:=fun j v hv=>(HBW.out.cell (p:=⟨b,o+k*12+j,C⟩) (by show b<_;omega)).trans ((HB.out.cell (p:=⟨b,o+k*12+j,C⟩) hbw).trans (hat j v hv))
             have e0:wr.cell? ⟨b,o+k*12,C⟩=some (l x.name):=hcell 0 _ rfl
             have e1:=hcell 1 _ rfl
             have e2:=hcell 2 _ rfl
             have e3:=hcell 3 _ rfl
             have e4:=hcell 4 _ rfl
             have e5:=hcell 5 _ rfl
             have e6:=hcell 6 _ rfl
             have e7:=hcell 7 _ rfl
             have e8:=hcell 8 _ rfl
             have e9:=hcell 9 _ rfl
             have e10:=hcell 10 _ rfl
             have e11:=hcell 11 _ rfl
             have hki:(k:Int)<(S.bays.length:Int):=by omega
             have hk0:(0:Int)≤(k:Int):=by omega
             have hbl:b<wr.heap.size:=by omega
             obtain ⟨AV,cV,rfl,-,-⟩:=zac HGR.out.own
             have hbx:=zaa wr (D #[l x.name,f g x.kind,f g x.ofi,f g x.en,f g x.zr,f g x.zx,r AL x.links.length cL,E x.closed,f g x.ct,f g x.vt,f g x.sat,f g x.travel] 113)
             have R13:Row (wr.alloc (D #[l x.name,f g x.kind,f g x.ofi,f g x.en,f g x.zr,f g x.zx,r AL x.links.length cL,E x.closed,f g x.ct,f g x.vt,f g x.sat,f g x.travel] 113)) wr.heap.size 113 [l x.name,f g x.kind,f g x.ofi,f g x.en,f g x.zr,f g x.zx,r AL x.links.length cL,E x.closed,f g x.ct,f g x.vt,f g x.sat,f g x.travel]:=Row.new _ [l x.name,f g x.kind,f g x.ofi,f g x.en,f g x.zr,f g x.zx,r AL x.links.length cL,E x.closed,f g x.ct,f g x.vt,f g x.sat,f g x.travel] rfl
             obtain ⟨f0,f1,f2,f3,f4,f5,f6,f7,f8,f9,f10,f11⟩:=kr12 R13
             obtain ⟨s0,s1,s2,s3,s4⟩:=kb5 hbx (by show w.heap.size<_;omega) ⟨((HBW.out.cell (p:=⟨w.heap.size,0,C⟩) l0').trans q0),((HBW.out.cell (p:=⟨w.heap.size,1,C⟩) l0').trans q1),((HBW.out.cell (p:=⟨w.heap.size,2,C⟩) l0').trans q2),((HBW.out.cell (p:=⟨w.heap.size,3,C⟩) l0').trans q3),((HBW.out.cell (p:=⟨w.heap.size,4,C⟩) l0').trans q4)⟩
             have HBX:=Hd hbx
             have hbwr:Below w.heap.size w wr:=HB.out.trans (HBW.out.mono (Nat.le_succ _))
             have hbwx:Below w.heap.size w (wr.alloc (D #[l x.name,f g x.kind,f g x.ofi,f g x.en,f g x.zr,f g x.zx,r AL x.links.length cL,E x.closed,f g x.ct,f g x.vt,f g x.sat,f g x.travel] 113)):=hbwr.trans (hbx.mono hbwr.size)
             have HE:=(zgt B k p S x AL cL (wr.alloc (D #[l x.name,f g x.kind,f g x.ofi,f g x.en,f g x.zr,f g x.zx,r AL x.links.length cL,E x.closed,f g x.ct,f g x.vt,f g x.sat,f g x.travel] 113)) (by have:=hbwx.size;omega) (HT.out.below hbwx HT.out.2) (HS.out.mono (F _) (hbwx.mono hB)) HF.out hx (hz4.mono LinkC.mono (F _) (hbwx.mono hB)))
             rw [HP1.out,HP2.out,HP3.out,HP4.out] at HE
             have HEE:=Hd HE
             clear HE hbwr hbwx hbx hcell hat hz1 hz2 hz3 hz4 hx hA R13
             go_upto_region 24 with fail
             clear e0 e1 e2 e3 e4 e5 e6 e7 e8 e9 e10 e11
             generalize wr.alloc (D #[l x.name,f g x.kind,f g x.ofi,f g x.en,f g x.zr,f g x.zx,r AL x.links.length cL,E x.closed,f g x.ct,f g x.vt,f g x.sat,f g x.travel] 113)=w4 at *
             go_wp2_with fail
             refine HEE.out.mono ?_
             rintro e w5 ⟨cs,rfl,hit,hb5⟩
             obtain ⟨A1,c1,q',A2,n2,c2,ws,rfl,hrest⟩:=hit
             have HB5:=Hd (HBX.out.trans (hb5.mono HBX.out.size))
             have HIT:=Hd (show ItC 2 w5 (fun b=>wr.heap.size≤b∧b<w5.heap.size) [f g 0,r A1 ws.length c1,E q',r A2 n2 c2] () from ItC.mono 2 _ _ _ _ _ _ (fun b z=>⟨K HBX.out.size z.1,z.2⟩) (KeepOn.refl _ _) ⟨A1,c1,q',A2,n2,c2,ws,rfl,hrest⟩)
             clear hrest hb5 s0 s1 s2 s3 s4 f0 f1 f2 f3 f4 f5 f6 f7 f8 f9 f10 f11
             have HO5:=Hd ((zab HGR.out.own HB5.out (F _)).alloc (D #[f g 0,r A1 ws.length c1,E q',r A2 n2 c2] 211))
             have HS5:=Hd (za5 w5 [f g 0,r A1 ws.length c1,E q',r A2 n2 c2] 211 4 1 rfl)
             have hs5:=HB5.out.size
             go_wp2_with (at_builtin;refine zar (w:=w5.alloc (D #[f g 0,r A1 ws.length c1,E q',r A2 n2 c2] 211)) _ _ 173 rfl rfl Tryz.underlying173 HTJ.out.1 HTJ.out.2.1 HTJ.out.2.2.1 HTJ.out.2.2.2 rfl (by decide) rfl HO5.out rfl HS5.out (by simp [Value.oneCell']) (by unfold maxLen;omega) (by omega) (by simp;omega) ?_)
             intro v9 w9 hown9 hg9 hv9
             have HG9:=Hd (zcj HGR.out HB5.out HIT.out hg9 (by simpa using hv9) (by simpa using hown9))
             have HB9:=Hd ((HBW.out.trans (HB5.out.mono hlo)).trans (((zaa w5 _).mono (by omega)).trans (zaC hg9 (by simp;omega) fun q hq=>(HO5.out.lt q hq).1)))
             clear hown9 hg9 hv9
             obtain ⟨A9,c9,rfl,-,-⟩:=zac HG9.out.own
             go_wp2
             go_roundw
             case rel=>exact ⟨k+1,_,by omega,by go_num,HG9.out,by rw [O,HLEN.out];simp;omega,HB9.out⟩
             case measure=>simp [intOf];omega
           · obtain rfl:k=S.bays.length:=by omega
             obtain ⟨AV,cV,rfl,hcl,hcm⟩:=zac HGR.out.own
             clear hlt
             go_wp2
             go_ret
             exact ⟨AV,cV,its,rfl,by have:=HLEN.out;omega,⟨hcl,hcm⟩,HGR.out.base (Nat.le_succ _),HB.out.trans (HBW.out.mono (Nat.le_succ _))⟩
end Go.Proofs.YtjkimieapfbhbaaGreatDoor
