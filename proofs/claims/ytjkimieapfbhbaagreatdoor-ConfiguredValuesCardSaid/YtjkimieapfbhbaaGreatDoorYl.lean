/-
 The statements of a relay's lists.
-/
import Derived.Test.YtjkimieapfbhbaaGreatDoorYj
import Derived.Test.YtjkimieapfbhbaaGreatDoorYh
import Derived.Test.YtjkimieapfbhbaaGreatDoorPUj
set_option maxRecDepth 100000
set_option maxHeartbeats 64000000
open Go.Value renaming slice → d, string → f, int → l, bool → E
open Option renaming none → g
open Go.IntKind renaming i64 → u
open Go.Obj renaming cells → C
open Nat renaming le_refl → D, lt_succ_self → M, lt_of_lt_of_eq → P, zero_le → Q, lt_of_lt_of_le → ja
open List renaming setIfInBounds_toArray → F, set_cons_zero → G, set_cons_succ → H, not_mem_nil → R, mem_cons → U, length_append → Y
open Go.Act renaming put → I
open Go.Proofs.YtjkimieapfbhbaaGreatDoor.Row renaming new → J, cell → X
open And renaming intro → O
open Go.World renaming size_alloc → V, cell?_of_block → jb, frozen?_of_block → jc
open Bool renaming noConfusion → Z
namespace Go.Proofs.YtjkimieapfbhbaaGreatDoor
open Go.RowKit
def LstR (m L base:Nat) (W0:World) (v i:Value) (wr:World):Prop:=∃ k:Nat,∃ its:List (List Value),k≤L∧i = l u (k:Int)∧Grows 1 (fun _=>False) base wr v its∧its.length≤m+k∧Below base W0 wr
theorem Wt.text {s:ByteArray} (h:zl3 s):Wt s:=⟨h.1,fun k c hc=>by have:=h.2 k c hc;omega⟩
theorem zma {W:World} {base n c1 c2:Nat} {A1 A2:Option Addr} {S:Nat→Prop} {ws:List (ByteArray × Bool)} {ss:List ByteArray} (ho1:W.ownsRow base 217 2 (d A1 ws.length c1) ws.length (ws.flatMap wdC)) (hb:base≤W.heap.size) (hw1:∀ x∈ws,Wt x.1) (hl1:ws.length≤19)
 (hr:Rw WtC 1 W S A2 n ss) (hn:n≤40) (hS:∀ b,S b→b<base) :
 Calls Tryz.prog 123 #[.agg #[l u 0,d A1 ws.length c1,E false,d g 0 0],d A2 n c2] W (zd1 base (ws.length+n) (ws.length+n) W):=by
 obtain rfl:ss.length=n:=hr.1;exact zgu S A2 c2 base A1 c1 ws ss W hr hn hb ho1 hw1 hl1 fun b q=>⟨ja (hS b q) hb,fun z=>by have:=(ho1.lt b z).1;have:=hS b q;omega⟩
theorem rws_wt {w:World} {B n:Nat} {A:Option Addr} {xs:List ByteArray} (h:Rws StrC 1 w B A n xs) (hw:∀ s∈xs,Wt s):Rw WtC 1 w (fun b=>b<B) A n xs:=
 ⟨h.1,fun hn=>by
  obtain ⟨b,o,e,hb,hr⟩:=h.2 hn;refine ⟨b,o,e,hb,fun k x hx => ?_⟩
  obtain ⟨cs,h1,h2,h3⟩:=hr k x hx;exact ⟨cs,h1,⟨h2.1,hw x (List.mem_of_getElem? hx)⟩,h3⟩⟩
theorem zeR (cs:List Value) (x:RelayX) (B:Nat) (w:World) (hB:B≤w.heap.size) (h:RelayXC w B cs x) (hc:CountF x.r) (hru:∀ (k:Nat) (y:ByteArray × ByteArray),x.r.rules[k]? = some y→RuleF x.r.rules k y) (hl:ListsF x) (T:Tab w) :
 Calls Tryz.prog 126 #[.agg cs.toArray] w (RetK 1 48 w):=by
 obtain ⟨c49,h49,A1,k1,e1,l1,m1,R1⟩:=h.base.rules;obtain ⟨c50,h50,A2,k2,e2,l2,m2,R2⟩:=h.base.sets;obtain ⟨c51,h51,A3,k3,e3,l3,m3,R3⟩:=h.pubs;obtain ⟨c52,h52,A4,k4,e4,l4,m4,R4⟩:=h.base.subs
 cases e1;cases e2;cases e3;cases e4
 obtain ⟨u1,u2,u3,u4,u5⟩:=hc;have u3':x.pubs.length≤4:=by have e:=h.same;rw [e,List.length_map] at u3;exact u3
 obtain ⟨i0,hi,hz0,hz1,hz2⟩:=info_parts zcK;have HTJ:=Hd (O hi (O hz0 (O hz1 hz2)));clear hi hz0 hz1 hz2;obtain ⟨j0,hi,hz0,hz1,hz2⟩:=info_parts zfC;have HTW:=Hd (O hi (O hz0 (O hz1 hz2)));clear hi hz0 hz1 hz2;have q49:(w.alloc (C cs.toArray 60)).cell? ⟨w.heap.size,49,g⟩=some (d A1 x.r.rules.length k1):=zaI h49;have q50:(w.alloc (C cs.toArray 60)).cell? ⟨w.heap.size,50,g⟩=some (d A2 x.r.sets.length k2):=zaI h50;have q51:(w.alloc (C cs.toArray 60)).cell? ⟨w.heap.size,51,g⟩=some (d A3 x.pubs.length k3):=zaI h51;have q52:(w.alloc (C cs.toArray 60)).cell? ⟨w.heap.size,52,g⟩=some (d A4 x.r.subs.length k4):=zaI h52;have hb:=zaa w (C cs.toArray 60);have HR1:=Hd R1;have HR2:=Hd R2;have HR3:=Hd R3;have HR4:=Hd R4;have HL:=Hd hl;have HRU:=Hd hru;have HU5:=Hd u5;have hz:(w.alloc (C cs.toArray 60)).heap.size=w.heap.size+1:=by simp
 have HB:=Hd hb;have HT:=Hd T;clear h h49 h50 h51 h52 R1 R2 R3 R4 u5 hl hru hb u3 T;go_enter Tryz.func126,Tryz.ntmps126;go_upto_region 1 with fail
 generalize w.alloc (C cs.toArray 60)=W0 at *;have hlw:w.heap.size<W0.heap.size:=by omega
 have HQ50:=Hd q50;have HQ51:=Hd q51;have HQ52:=Hd q52;clear q50 q51 q52;go_wp2;clear q49
 go_loopw [3,16] (LstR (0) x.r.rules.length (w.heap.size+1) W0) (fun _ i _=>x.r.rules.length-(intOf i).toNat)
 case atStart=>exact ⟨0,_,Q _,rfl,Grows.nil (fun _ q=>q.elim) (by omega),Q _,Below.refl _ _⟩
 case round =>
  obtain ⟨k,its,hk,rfl,hg,hlen,hbel⟩:=hrel;have HGR:=Hd hg;have HBW:=Hd hbel;have hlo:=hg.lo;have hilen:its.length≤60:=by omega
  have HLEN:=Hd hlen;clear hg hbel hlen
  by_cases hlt:k<x.r.rules.length
  · obtain ⟨b,o,cs',y,hA,hbB,hy,-,⟨rfl,hz1,hz2⟩,hat⟩:=HR1.out.at_ hlt
    subst hA
    have hbw:b<w.heap.size:=by omega
    have hcell:∀ j v,[f y.1,f y.2][j]? = some v→wr.cell? ⟨b,o+k*2+j,g⟩=some v:=fun j v hv=>(HBW.out.cell (p:=⟨b,o+k*2+j,g⟩) (by show b<_;omega)).trans ((HB.out.cell (p:=⟨b,o+k*2+j,g⟩) hbw).trans (hat j v hv))
    have e0:wr.cell? ⟨b,o+k*2,g⟩=some (f y.1):=hcell 0 _ rfl
    have e1:=hcell 1 _ rfl
    have hki:(k:Int)<(x.r.rules.length:Int):=by omega
    have hk0:(0:Int)≤(k:Int):=by omega
    have hbl:b<wr.heap.size:=by omega
    obtain ⟨AV,cV,rfl,-,-⟩:=zac HGR.out.own
    have hbx:=zaa wr (C #[f y.1,f y.2] 148)
    have R7:Row (wr.alloc (C #[f y.1,f y.2] 148)) wr.heap.size 148 [f y.1,f y.2]:=J _ [f y.1,f y.2] rfl
    have l7:=R7.lt
    obtain ⟨f0,f1⟩:=kr2 R7
    have HW1:=Hd (Wt.ok (HRU.out k y hy).name)
    have HW2:=Hd (Wt.text (HRU.out k y hy).text)
    have HBX:=Hd hbx
    have hsx:=hbx.size
    have HGX:=Hd (HGR.out.below hbx (D _))
    clear hcell hat hy hbx R7
    go_upto_region 5 with fail
    clear e0 e1
    generalize wr.alloc (C #[f y.1,f y.2] 148)=w4 at *
    go_wp2_with fail
    refine (zc5 [⟨#[114,117,108,101]⟩,y.1] 2 rfl (by decide) (by intro s hs;simp only [U,R,or_false] at hs;rcases hs with rfl | rfl;exact Wt.lit rfl;exact HW1.out) _ _ (J (w:=w4) (t := 9) w4.heap.size [.string ⟨#[114,117,108,101]⟩,.string y.1] rfl)).mono ?_
    rintro e w5 ⟨A5,c5,ws,rfl,hln,hcc,ho5,hw5,hb5⟩
    have hb45:Below w4.heap.size w4 w5:=(zaa w4 (C #[f ⟨#[114,117,108,101]⟩,f y.1] 9)).trans (hb5.mono (by simp))
    have hs45:=hb45.size
    have g1:=(hb45.cell (p:=⟨wr.heap.size,1,g⟩) l7).trans f1
    have hi6:ItB (w5.alloc (C #[l u 0,d A5 ws.length c5,E false,d g 0 0] 211)) w5.heap.size w4.heap.size (d A5 ws.length c5) ws:=⟨J _ [l u 0,d A5 ws.length c5,E false,d g 0 0] rfl,(zao ho5 (by simp)).alloc _,fun q=>by have:=(ho5.lt _ q).2;omega,by simp;omega⟩
    have k1:=((zaa w5 (C #[l u 0,d A5 ws.length c5,E false,d g 0 0] 211)).cell (p:=⟨wr.heap.size,1,g⟩) (by show wr.heap.size<_;omega)).trans g1
    have hb6:Below wr.heap.size wr (w5.alloc (C #[l u 0,d A5 ws.length c5,E false,d g 0 0] 211)):=(HBX.out.trans (hb45.mono hsx)).trans ((zaa w5 _).mono (by omega))
    go_upto_region 6 with fail
    clear f0 f1 g1
    generalize w5.alloc (C #[l u 0,d A5 ws.length c5,E false,d g 0 0] 211)=w6 at *
    have HI6:=Hd hi6
    have HB6:=Hd hb6
    have HWS:=Hd hw5
    have HLN:=Hd hln
    have m1:=X (k:=1) (v := d A5 ws.length c5) (t := 211) (cs:=[l u 0,d A5 ws.length c5,E false,d g 0 0]) (w:=w6) hi6.box rfl
    have mf:=Row.free (t := 211) (cs:=[l u 0,d A5 ws.length c5,E false,d g 0 0]) (w:=w6) hi6.box 1
    have hl6:=zcp hi6.box
    have hsm:y.2.size≤maxLen:=hz2
    clear hi6 hb6 hb45 ho5 hw5 hb5 hcc
    go_wp2_with (at_builtin;refine zar (w:=w6.alloc (C #[f y.2,E true] 217)) _ _ 209 rfl rfl Tryz.underlying209 HTW.out.1 HTW.out.2.1 HTW.out.2.2.1 HTW.out.2.2.2 rfl (by decide) rfl (HI6.out.own.alloc _) rfl (za5 w6 [f y.2,E true] 217 2 1 rfl) (by simp [Value.oneCell']) (by unfold maxLen;omega) (by omega) (by simp;have:=HI6.out.lo;omega) ?_)
    intro v7 w7 hown7 hg7 hv7
    have hi7:=HI6.out.push (x:=(y.2,true)) hg7 hv7 hown7
    have m1':w7.cell? ⟨w5.heap.size,1,g⟩=some (d A5 ws.length c5):=by
     rw [jb (a:=⟨w5.heap.size,1,g⟩) (hg7.block _ (by simp;omega) (fun q=>HI6.out.ng q.symm)),jb (a:=⟨w5.heap.size,1,g⟩) (heap_alloc_old w6 _ hl6)]
     exact m1
    have mf':w7.frozen? ⟨w5.heap.size,1,g⟩=false:=by
     rw [jc (a:=⟨w5.heap.size,1,g⟩) (hg7.block _ (by simp;omega) (fun q=>HI6.out.ng q.symm)),jc (a:=⟨w5.heap.size,1,g⟩) (heap_alloc_old w6 _ hl6)]
     exact mf
    have hb8:Below wr.heap.size wr (w7.setCell ⟨w5.heap.size,1,g⟩ v7):=((HB6.out.trans ((zaa w6 _).mono HB6.out.size)).trans (zaC hg7 (by simp;have:=HB6.out.size;omega) fun q hq=>by have:=(HI6.out.own.lt q hq).1;omega)).setCell (p:=⟨w5.heap.size,1,g⟩) (by show wr.heap.size≤w5.heap.size;omega) _
    obtain ⟨A7,c7,rfl,-,-⟩:=zac hown7
    clear m1 mf k1 hown7 hg7 hv7
    go_upto_region 7 with fail
    generalize w7.setCell ⟨w5.heap.size,1,g⟩ (d A7 (ws.length+1) c7)=w8 at *
    have HB5:=Hd hb8
    have hlw:(ws++[(y.2,true)]).length=ws.length+1:=by simp
    have HIT:=Hd (show ItC 1 w8 (fun b=>wr.heap.size≤b∧b<w8.heap.size) [l u 0,d A7 (ws.length+1) c7,E false,d g 0 0] () from zdw (by have h:=hi7.own;rw [hlw] at h;exact h) hlw (by intro z hz;rcases List.mem_append.1 hz with hz | hz;exact HWS.out z hz;simp at hz;subst hz;exact HW2.out) (by have:=HLN.out;omega) (fun b h1 h2=>⟨by omega,h2⟩))
    have t0:=X (k:=0) (v := l u 0) (t := 211) (cs:=[l u 0,d A7 (ws.length+1) c7,E false,d g 0 0]) (w:=w8) hi7.box rfl
    have t1:=X (k:=1) (v := d A7 (ws.length+1) c7) (t := 211) (cs:=[l u 0,d A7 (ws.length+1) c7,E false,d g 0 0]) (w:=w8) hi7.box rfl
    have t2:=X (k:=2) (v := E false) (t := 211) (cs:=[l u 0,d A7 (ws.length+1) c7,E false,d g 0 0]) (w:=w8) hi7.box rfl
    have t3:=X (k:=3) (v := d g 0 0) (t := 211) (cs:=[l u 0,d A7 (ws.length+1) c7,E false,d g 0 0]) (w:=w8) hi7.box rfl
    clear m1' mf' hi7 hb8
    have HO5:=Hd ((zab HGR.out.own HB5.out (D _)).alloc (C #[l u 0,d A7 (ws.length+1) c7,E false,d g 0 0] 211))
    have HS5:=Hd (za5 w8 [l u 0,d A7 (ws.length+1) c7,E false,d g 0 0] 211 4 1 rfl)
    have hs5:=HB5.out.size
    go_wp2_with (at_builtin;refine zar (w:=w8.alloc (C #[l u 0,d A7 (ws.length+1) c7,E false,d g 0 0] 211)) _ _ 173 rfl rfl Tryz.underlying173 HTJ.out.1 HTJ.out.2.1 HTJ.out.2.2.1 HTJ.out.2.2.2 rfl (by decide) rfl HO5.out rfl HS5.out (by simp [Value.oneCell']) (by unfold maxLen;omega) (by omega) (by simp;omega) ?_)
    intro v9 w9 hown9 hg9 hv9
    have HG9:=Hd (zcj HGR.out HB5.out HIT.out hg9 (by simpa using hv9) (by simpa using hown9))
    have HB9:=Hd ((HBW.out.trans (HB5.out.mono hlo)).trans (((zaa w8 _).mono (by omega)).trans (zaC hg9 (by simp;omega) fun q hq=>(HO5.out.lt q hq).1)))
    clear hown9 hg9 hv9
    clear t0 t1 t2 t3
    obtain ⟨A9,c9,rfl,-,-⟩:=zac HG9.out.own
    go_wp2
    go_roundw
    case rel=>exact ⟨k+1,_,by omega,by go_num,HG9.out,by rw [Y];have:=HLEN.out;simp;omega,HB9.out⟩
    case measure=>simp [intOf];omega
  · obtain rfl:k=x.r.rules.length:=by omega
    obtain ⟨AV,cV,rfl,-,-⟩:=zac HGR.out.own
    have dq:=(HBW.out.cell (p:=⟨w.heap.size,50,g⟩) (M _)).trans HQ50.out
    clear hlt
    go_wp2
    clear dq
    go_loopw [3,40] (LstR (x.r.rules.length) x.r.sets.length (w.heap.size+1) W0) (fun _ i _=>x.r.sets.length-(intOf i).toNat)
    case atStart=>exact ⟨0,_,Q _,rfl,HGR.out,by have:=HLEN.out;omega,HBW.out⟩
    case round =>
     clear HGR HBW HLEN
     obtain ⟨k,its,hk,rfl,hg,hlen,hbel⟩:=hrel
     have HGR:=Hd hg
     have HBW:=Hd hbel
     have hlo:=hg.lo
     have hilen:its.length≤60:=by omega
     have HLEN:=Hd hlen
     clear hg hbel hlen
     by_cases hlt:k<x.r.sets.length
     · obtain ⟨b,o,cs',y,hA,hbB,hy,-,⟨c9,rfl,hz1,⟨AZ,cZ,ez,hz2,hz3,hz4⟩⟩,hat⟩:=HR2.out.at_ hlt
       subst hA
       cases ez
       have hbw:b<w.heap.size:=by omega
       have hcell:∀ j v,[f y.1,d AZ y.2.length cZ][j]? = some v→wr.cell? ⟨b,o+k*2+j,g⟩=some v:=fun j v hv=>(HBW.out.cell (p:=⟨b,o+k*2+j,g⟩) (by show b<_;omega)).trans ((HB.out.cell (p:=⟨b,o+k*2+j,g⟩) hbw).trans (hat j v hv))
       have e0:wr.cell? ⟨b,o+k*2,g⟩=some (f y.1):=hcell 0 _ rfl
       have e1:=hcell 1 _ rfl
       have hki:(k:Int)<(x.r.sets.length:Int):=by omega
       have hk0:(0:Int)≤(k:Int):=by omega
       have hbl:b<wr.heap.size:=by omega
       obtain ⟨AV,cV,rfl,-,-⟩:=zac HGR.out.own
       have hbx:=zaa wr (C #[f y.1,d AZ y.2.length cZ] 146)
       have R7:Row (wr.alloc (C #[f y.1,d AZ y.2.length cZ] 146)) wr.heap.size 146 [f y.1,d AZ y.2.length cZ]:=J _ [f y.1,d AZ y.2.length cZ] rfl
       have l7:=R7.lt
       obtain ⟨f0,f1⟩:=kr2 R7
       have HW1:=Hd (Wt.ok (HL.out.sets k y hy).name)
       have hsz:=(HU5.out k y hy).2
       have HSW:=Hd (show ∀ s∈y.2,Wt s from fun s hs=>by
        obtain ⟨i,hi⟩:=List.getElem?_of_mem hs
        exact Wt.ok ((HL.out.sets k y hy).sigs i s hi))
       have HZ4:=Hd hz4
       clear hz4
       have HBX:=Hd hbx
       have hsx:=hbx.size
       have HGX:=Hd (HGR.out.below hbx (D _))
       clear hcell hat hy hbx R7
       go_upto_region 12 with fail
       clear e0 e1
       generalize wr.alloc (C #[f y.1,d AZ y.2.length cZ] 146)=w4 at *
       have HSG:=Hd (show ∀ W',Below w4.heap.size w4 W'→Rw WtC 1 W' (fun b=>b<B) AZ y.2.length y.2 from fun W' hW =>
        (rws_wt HZ4.out HSW.out).mono WtC.mono (fun _ q=>q) (zbc (HB.out.trans ((HBW.out.mono (Nat.le_succ _)).trans ((HBX.out.mono (by omega)).trans (hW.mono (by omega))))) fun b q=>ja q hB))
       have hnx:¬ ((d AV its.length cV).ownBlock=some wr.heap.size):=fun q=>by have:=(HGR.out.own.lt _ q).2;omega
       refine zau (fun w'=>KB (fun b=>(d AV its.length cV).ownBlock=some b) w4 w') (fun w'=>Below w4.heap.size w4 w') 9 (by kernel_rfl) ?_
       obtain ⟨wx,hwd0⟩:∃ x,x=w4.drew:=⟨_,rfl⟩
       have hS:KB (fun b=>(d AV its.length cV).ownBlock=some b) w4 wx:=by rw [hwd0];exact (KB.refl _ _).drew
       have hC:Below w4.heap.size w4 wx:=by rw [hwd0];exact (Below.refl _ _).drew
       rw [← hwd0]
       clear hwd0
       have hz:=hC.size
       have hCC:=hC
       have HST:=Hd (zc5 [⟨#[115,101,116]⟩,y.1] 2 rfl (by decide) (by intro s hs;simp only [U,R,or_false] at hs;rcases hs with rfl | rfl;exact Wt.lit rfl;exact HW1.out))
       refine zam 0 rfl hS (fun _=>hCC) ?_
       try simp only [I,F,G,H]
       refine zam 1 rfl hS (fun _=>hCC) ?_
       try simp only [I,F,G,H]
       refine zaS 2 ?_ rfl hS (fun _=>hCC) ?yld ?_
       case yld=>(intro wq hSw;have e:=(hSw.cell (o:=0) l7 hnx).trans f0;go_simp <;> with_reducible rfl)
       try simp only [I,F,G,H]
       refine zam 5 rfl hS (fun _=>hCC) ?_
       try simp only [I,F,G,H]
       refine zaS 6 ?_ rfl hS (fun _=>hCC) ?yld ?_
       case yld=>(intro wq hSw;have e:=(hSw.cell (o:=1) l7 hnx).trans f1;go_simp <;> with_reducible rfl)
       try simp only [I,F,G,H]
       iterate 4 (all_goals (focus (
        (first
         | (refine zad (rs:=[3]) (by decide +kernel) (by simp) ?_)
         | (refine zad (rs:=[4]) (by decide +kernel) (by simp) ?_)
         | (refine zad (rs:=[7]) (by decide +kernel) (by simp) ?_)
         | (refine zad (rs:=[8]) (by decide +kernel) (by simp) ?_))
        repeat' (first | exact AllReadyT.nil | (refine AllReadyT.cons rfl (fun K hK => ?_) ?_))
        all_goals (focus (
         go_simp
         first
         | (go_at_call 122
            (with_reducible refine (HST.out _ _ HRL.out).mono ?_)
            rintro e wy ⟨A1,c1,ws,rfl,hlen,hcc,ho1,hw1,hb1⟩
            have hC1:=hC.trans (hb1.mono hC.size)
            go_wp2_with fail
            refine hK.out _ _ (KB.of_below hC1) (fun _=>hC1) ?_
            clear hS hC hCC
            intro hS hCC
            replace hCC:=hCC rfl
            have hC:=hCC
            clear hK K
            try simp only [I,F,G,H]
            try replace HRL:=Hd (HRL.out.below hb1 HRL.out.lt)
            try replace HO1:=Hd (zab HO1.out hb1 (D _))
            try replace HO2:=Hd (zab HO2.out hb1 (D _))
            try replace HO3:=Hd (zab HO3.out hb1 (D _))
            have HO1:=Hd ho1
            have HWW:=Hd hw1
            have HLN:=Hd hlen
            have hz:=hb1.size
            have hzc:=hC1.size
            have HA1:=Hd (show ∀ b,(d A1 ws.length c1).ownBlock=some b→wx.heap.size≤b∧b<wy.heap.size from fun b q=>ho1.lt b q)
            clear ho1 hw1 hb1 hlen hC1
            generalize hwx:wy=wx at *
            clear hwx)
         | (go_at_call 123
            (with_reducible refine (zma (zao (base':=w4.heap.size) HO1.out (by omega)) hC.size HWW.out (by have:=HLN.out;omega) (HSG.out _ hC) (by omega) (fun b q=>by omega)).mono ?_)
            rintro e wy ⟨A3,c3,ws3,rfl,hlen3,hcc3,ho3,hw3,hb3⟩
            have hC1:=hC.trans hb3
            go_wp2_with fail
            refine hK.out _ _ (KB.of_below hC1) (fun _=>hC1) ?_
            clear hS hC hCC
            intro hS hCC
            replace hCC:=hCC rfl
            have hC:=hCC
            clear hK K
            try simp only [I,F,G,H]
            try replace HRZ:=Hd (show Row wy _ _ _ from (hkb.block _ HRZ.out.lt (fun q=>by have:=HA1.out _ q;omega)).trans HRZ.out)
            have HO3:=Hd ho3
            have HW3:=Hd hw3
            have HLN3:=Hd hlen3
            have hz:=hC.size
            clear ho3 hw3 hb3 hlen3 hC1 HO1
            generalize hwx:wy=wx at *
            clear hwx)
         | (with_reducible refine hK.out _ _ (KB.alloc hS (C #[f ⟨#[115,101,116]⟩,f y.1] 9)) (fun _=>hC.alloc hC.size _) ?_
            clear hS hC hCC
            intro hS hCC
            replace hCC:=hCC rfl
            have hC:=hCC
            clear hK K
            try simp only [I,F,G,H]
            have hbb:=zaa wx (C #[f ⟨#[115,101,116]⟩,f y.1] 9)
            try replace HRL:=Hd (HRL.out.below hbb HRL.out.lt)
            try replace HO1:=Hd (zab HO1.out hbb (D _))
            try replace HO2:=Hd (zab HO2.out hbb (D _))
            try replace HO3:=Hd (zab HO3.out hbb (D _))
            have HRL:=Hd (J (w:=wx) (t := 9) wx.heap.size [f ⟨#[115,101,116]⟩,f y.1] rfl)
            have hz:=P (M _) (V wx (C #[f ⟨#[115,101,116]⟩,f y.1] 9)).symm
            clear hbb
            generalize wx.alloc (C #[f ⟨#[115,101,116]⟩,f y.1] 9)=wx at *)
         | (with_reducible refine hK.out _ _ (KB.alloc hS (C #[l u 0,d A3 ws3.length c3,E false,d g 0 0] 211)) (fun _=>hC.alloc hC.size _) ?_
            clear hS hC hCC
            intro hS hCC
            replace hCC:=hCC rfl
            have hC:=hCC
            clear hK K
            try simp only [I,F,G,H]
            have hbb:=zaa wx (C #[l u 0,d A3 ws3.length c3,E false,d g 0 0] 211)
            try replace HRL:=Hd (HRL.out.below hbb HRL.out.lt)
            try replace HO1:=Hd (zab HO1.out hbb (D _))
            try replace HO2:=Hd (zab HO2.out hbb (D _))
            try replace HO3:=Hd (zab HO3.out hbb (D _))
            have HRZ:=Hd (J (w:=wx) (t := 211) wx.heap.size [l u 0,d A3 ws3.length c3,E false,d g 0 0] rfl)
            have hz9:=P (M _) (V wx (C #[l u 0,d A3 ws3.length c3,E false,d g 0 0] 211)).symm
            clear hbb
            generalize wx.alloc (C #[l u 0,d A3 ws3.length c3,E false,d g 0 0] 211)=wx at *)
        ))
       )))
       all_goals (focus (
        refine zad (rs:=[9]) (by kernel_rfl) (by simp) ?_
        refine AllReadyT.cons (i:=9) rfl (fun K hK => ?_) ?_
        · skip
          refine zai (w:=wx) _ _ 173 rfl rfl Tryz.underlying173 HTJ.out.1 HTJ.out.2.1 HTJ.out.2.2.1 HTJ.out.2.2.2 rfl (by decide) rfl (zab HGX.out.own hC (D _)) rfl (zdW HRZ.out rfl) (by simp [Value.oneCell']) (by unfold maxLen;omega) (by omega) (by have:=hC.size;have:=HGX.out.lo;omega) ?_
          intro v9 w9 hown9 hg9 hv9
          have hlo2:=HGX.out.lo
          have HG9:=Hd ((HGX.out.below hC (D _)).more (cs:=[[l u 0,d A3 ws3.length c3,E false,d g 0 0]]) (W:=wx) (D _) (fun _ _=>rfl) hg9 hv9 (by simpa using hown9) (fun c hc=>by
           simp only [List.mem_singleton] at hc
           subst hc
           exact zdw HO3.out rfl HW3.out (by have:=HLN3.out;have:=HLN.out;omega) fun b h1 h2=>⟨by omega,h2,fun q=>by have:=(HGX.out.own.lt b q).2;omega,fun q=>q⟩))
          have HB9:=Hd ((HBW.out.trans (HBX.out.mono hlo)).trans ((hC.mono (by omega)).trans (zaC hg9 (by have:=hC.size;omega) fun q hq=>(HGX.out.own.lt q hq).1)))
          refine hK.out _ _ (KB.grow hS hg9 fun b q => .inl q) (fun q=>Z (show true=false from q)) (fun hS hCC => ?_)
          clear hK K
          try simp only [I,F,G,H]
          clear hown9 hg9 hv9
          refine zam 10 rfl hS (fun q=>Z (show true=false from q)) ?_
          try simp only [I,F,G,H]
          refine zaR (by kernel_rfl) ?_ _
          obtain ⟨A9,c9,rfl,-,-⟩:=zac HG9.out.own
          go_wp2
          go_roundw
          case rel=>exact ⟨k+1,_,by omega,by go_num,HG9.out,by rw [Y];have:=HLEN.out;simp;omega,HB9.out⟩
          case measure=>simp [intOf];omega
        exact AllReadyT.nil
       ))
     · obtain rfl:k=x.r.sets.length:=by omega
       obtain ⟨AV,cV,rfl,-,-⟩:=zac HGR.out.own
       have dq:=(HBW.out.cell (p:=⟨w.heap.size,51,g⟩) (M _)).trans HQ51.out
       clear hlt
       go_wp2
       clear dq
       go_loopw [3,58] (LstR (x.r.rules.length+x.r.sets.length) x.pubs.length (w.heap.size+1) W0) (fun _ i _=>x.pubs.length-(intOf i).toNat)
       case atStart=>exact ⟨0,_,Q _,rfl,HGR.out,by have:=HLEN.out;omega,HBW.out⟩
       case round =>
        clear HGR HBW HLEN
        obtain ⟨k,its,hk,rfl,hg,hlen,hbel⟩:=hrel
        have HGR:=Hd hg
        have HBW:=Hd hbel
        have hlo:=hg.lo
        have hilen:its.length≤60:=by omega
        have HLEN:=Hd hlen
        clear hg hbel hlen
        by_cases hlt:k<x.pubs.length
        · obtain ⟨b,o,cs',y,hA,hbB,hy,-,⟨rfl,hz1⟩,hat⟩:=HR3.out.at_ hlt
          subst hA
          have hbw:b<w.heap.size:=by omega
          have hcell:∀ j v,[f y.set,l u y.first,l u y.max][j]? = some v→wr.cell? ⟨b,o+k*3+j,g⟩=some v:=fun j v hv=>(HBW.out.cell (p:=⟨b,o+k*3+j,g⟩) (by show b<_;omega)).trans ((HB.out.cell (p:=⟨b,o+k*3+j,g⟩) hbw).trans (hat j v hv))
          have e0:wr.cell? ⟨b,o+k*3,g⟩=some (f y.set):=hcell 0 _ rfl
          have e1:=hcell 1 _ rfl
          have e2:=hcell 2 _ rfl
          have hki:(k:Int)<(x.pubs.length:Int):=by omega
          have hk0:(0:Int)≤(k:Int):=by omega
          have hbl:b<wr.heap.size:=by omega
          obtain ⟨AV,cV,rfl,-,-⟩:=zac HGR.out.own
          have hbx:=zaa wr (C #[f y.set,l u y.first,l u y.max] 158)
          have R7:Row (wr.alloc (C #[f y.set,l u y.first,l u y.max] 158)) wr.heap.size 158 [f y.set,l u y.first,l u y.max]:=J _ [f y.set,l u y.first,l u y.max] rfl
          have l7:=R7.lt
          obtain ⟨f0,f1,f2⟩:=kr3 R7
          have HW1:=Hd (Wt.ok (HL.out.pubs k y hy).name)
          have h64:I64 y.first∧I64 y.max:=by have h1:=(HL.out.pubs k y hy).first;have h2:=(HL.out.pubs k y hy).max;exact ⟨zaX (by omega),zaX (by omega)⟩
          have H64:=Hd h64
          clear h64
          have HBX:=Hd hbx
          have hsx:=hbx.size
          have HGX:=Hd (HGR.out.below hbx (D _))
          clear hcell hat hy hbx R7
          go_upto_region 17 with fail
          clear e0 e1 e2
          generalize wr.alloc (C #[f y.set,l u y.first,l u y.max] 158)=w4 at *
          have hnx:¬ ((d AV its.length cV).ownBlock=some wr.heap.size):=fun q=>by have:=(HGR.out.own.lt _ q).2;omega
          refine zau (fun w'=>KB (fun b=>(d AV its.length cV).ownBlock=some b) w4 w') (fun w'=>Below w4.heap.size w4 w') 13 (by kernel_rfl) ?_
          obtain ⟨wx,hwd0⟩:∃ x,x=w4.drew:=⟨_,rfl⟩
          have hS:KB (fun b=>(d AV its.length cV).ownBlock=some b) w4 wx:=by rw [hwd0];exact (KB.refl _ _).drew
          have hC:Below w4.heap.size w4 wx:=by rw [hwd0];exact (Below.refl _ _).drew
          rw [← hwd0]
          clear hwd0
          have hz:=hC.size
          have hCC:=hC
          have HST:=Hd (zc5 [⟨#[112,117,98,108,105,115,104]⟩,y.set] 2 rfl (by decide) (by intro s hs;simp only [U,R,or_false] at hs;rcases hs with rfl | rfl;exact Wt.lit rfl;exact HW1.out))
          have hT4:=HT.out.below (HB.out.trans ((HBW.out.mono (by omega)).trans (HBX.out.mono (by omega)))) HT.out.2
          have HDG:=Hd (show ∀ (κ:Nat) (W':World),Below w4.heap.size w4 W'→Row W' κ 3 [l u y.first,l u y.max]→Calls Tryz.prog 155 #[d (some ⟨κ,0,g⟩) 2 2] W' (zeP 2 W') from fun κ W' hW hR=>zhn [y.first,y.max] 2 rfl (by decide) (by intro z hz;simp only [U,R,or_false] at hz;rcases hz with rfl | rfl;exact H64.out.1;exact H64.out.2) W' κ (hT4.below hW hT4.2) hR)
          clear hT4
          refine zam 0 rfl hS (fun _=>hCC) ?_
          try simp only [I,F,G,H]
          refine zam 1 rfl hS (fun _=>hCC) ?_
          try simp only [I,F,G,H]
          refine zaS 2 ?_ rfl hS (fun _=>hCC) ?yld ?_
          case yld=>(intro wq hSw;have e:=(hSw.cell (o:=0) l7 hnx).trans f0;go_simp <;> with_reducible rfl)
          try simp only [I,F,G,H]
          refine zam 5 rfl hS (fun _=>hCC) ?_
          try simp only [I,F,G,H]
          refine zaS 6 ?_ rfl hS (fun _=>hCC) ?yld ?_
          case yld=>(intro wq hSw;have e:=(hSw.cell (o:=1) l7 hnx).trans f1;go_simp <;> with_reducible rfl)
          try simp only [I,F,G,H]
          refine zam 7 rfl hS (fun _=>hCC) ?_
          try simp only [I,F,G,H]
          refine zaS 8 ?_ rfl hS (fun _=>hCC) ?yld ?_
          case yld=>(intro wq hSw;have e:=(hSw.cell (o:=2) l7 hnx).trans f2;go_simp <;> with_reducible rfl)
          try simp only [I,F,G,H]
          iterate 6 (all_goals (focus (
           (first
            | (refine zad (rs:=[3,9]) (by decide +kernel) (by simp) ?_)
            | (refine zad (rs:=[4,9]) (by decide +kernel) (by simp) ?_)
            | (refine zad (rs:=[9]) (by decide +kernel) (by simp) ?_)
            | (refine zad (rs:=[10]) (by decide +kernel) (by simp) ?_)
            | (refine zad (rs:=[11]) (by decide +kernel) (by simp) ?_)
            | (refine zad (rs:=[12]) (by decide +kernel) (by simp) ?_)
            | (refine zad (rs:=[4]) (by decide +kernel) (by simp) ?_)
            | (refine zad (rs:=[3]) (by decide +kernel) (by simp) ?_))
           repeat' (first | exact AllReadyT.nil | (refine AllReadyT.cons rfl (fun K hK => ?_) ?_))
           all_goals (focus (
            go_simp
            first
            | (go_at_call 122
               (with_reducible refine (HST.out _ _ HRL.out).mono ?_)
               rintro e wy ⟨A1,c1,ws,rfl,hlen,hcc,ho1,hw1,hb1⟩
               have hC1:=hC.trans (hb1.mono hC.size)
               go_wp2_with fail
               refine hK.out _ _ (KB.of_below hC1) (fun _=>hC1) ?_
               clear hS hC hCC
               intro hS hCC
               replace hCC:=hCC rfl
               have hC:=hCC
               clear hK K
               try simp only [I,F,G,H]
               try replace HRL:=Hd (HRL.out.below hb1 HRL.out.lt)
               try replace HRN:=Hd (HRN.out.below hb1 HRN.out.lt)
               try replace HO1:=Hd (zab HO1.out hb1 (D _))
               try replace HO2:=Hd (zab HO2.out hb1 (D _))
               try replace HO3:=Hd (zab HO3.out hb1 (D _))
               have HO1:=Hd ho1
               have HWW:=Hd hw1
               have HLN:=Hd hlen
               have hz:=hb1.size
               have hzc:=hC1.size
               have HA1:=Hd (show ∀ b,(d A1 ws.length c1).ownBlock=some b→wx.heap.size≤b∧b<wy.heap.size from fun b q=>ho1.lt b q)
               clear ho1 hw1 hb1 hlen hC1
               generalize hwx:wy=wx at *
               clear hwx)
            | (go_at_call 155
               (with_reducible refine (HDG.out _ _ hC HRN.out).mono ?_)
               rintro e wy ⟨A2,c2',ss,rfl,hss,hc2,hw2,ho2,hb2⟩
               have hC1:=hC.trans (hb2.mono hC.size)
               go_wp2_with fail
               refine hK.out _ _ (KB.of_below hC1) (fun _=>hC1) ?_
               clear hS hC hCC
               intro hS hCC
               replace hCC:=hCC rfl
               have hC:=hCC
               clear hK K
               try simp only [I,F,G,H]
               try replace HRL:=Hd (HRL.out.below hb2 HRL.out.lt)
               try replace HRN:=Hd (HRN.out.below hb2 HRN.out.lt)
               try replace HO1:=Hd (zab HO1.out hb2 (D _))
               try replace HO2:=Hd (zab HO2.out hb2 (D _))
               try replace HO3:=Hd (zab HO3.out hb2 (D _))
               have HO2:=Hd ho2
               have HSS:=Hd hss
               have HW2:=Hd hw2
               have hz:=hb2.size
               have HNE:=Hd (show ∀ b,(d A1 ws.length c1).ownBlock=some b→b<wx.heap.size from fun b q=>by have:=HA1.out b q;omega)
               clear ho2 hb2 hss hw2 hC1
               generalize hwx:wy=wx at *
               clear hwx)
            | (go_at_call 123
               (with_reducible refine (zfA (zao (base':=w4.heap.size) HO1.out (by omega)) hC.size HWW.out (by have:=HLN.out;omega) HO2.out HSS.out HW2.out (by omega) HNE.out).mono ?_)
               rintro e wy ⟨⟨A3,c3,ws3,rfl,hlen3,hcc3,ho3,hw3,hb3⟩,hkb⟩
               have hC1:=hC.trans hb3
               go_wp2_with fail
               refine hK.out _ _ (KB.of_below hC1) (fun _=>hC1) ?_
               clear hS hC hCC
               intro hS hCC
               replace hCC:=hCC rfl
               have hC:=hCC
               clear hK K
               try simp only [I,F,G,H]
               try replace HRZ:=Hd (show Row wy _ _ _ from (hkb.block _ HRZ.out.lt (fun q=>by have:=HA1.out _ q;omega)).trans HRZ.out)
               have HO3:=Hd ho3
               have HW3:=Hd hw3
               have HLN3:=Hd hlen3
               have hz:=hkb.size
               clear ho3 hw3 hb3 hlen3 hkb hC1 HO1 HO2
               generalize hwx:wy=wx at *
               clear hwx)
            | (with_reducible refine hK.out _ _ (KB.alloc hS (C #[f ⟨#[112,117,98,108,105,115,104]⟩,f y.set] 9)) (fun _=>hC.alloc hC.size _) ?_
               clear hS hC hCC
               intro hS hCC
               replace hCC:=hCC rfl
               have hC:=hCC
               clear hK K
               try simp only [I,F,G,H]
               have hbb:=zaa wx (C #[f ⟨#[112,117,98,108,105,115,104]⟩,f y.set] 9)
               try replace HRL:=Hd (HRL.out.below hbb HRL.out.lt)
               try replace HRN:=Hd (HRN.out.below hbb HRN.out.lt)
               try replace HO1:=Hd (zab HO1.out hbb (D _))
               try replace HO2:=Hd (zab HO2.out hbb (D _))
               try replace HO3:=Hd (zab HO3.out hbb (D _))
               have HRL:=Hd (J (w:=wx) (t := 9) wx.heap.size [f ⟨#[112,117,98,108,105,115,104]⟩,f y.set] rfl)
               have hz:=P (M _) (V wx (C #[f ⟨#[112,117,98,108,105,115,104]⟩,f y.set] 9)).symm
               clear hbb
               generalize wx.alloc (C #[f ⟨#[112,117,98,108,105,115,104]⟩,f y.set] 9)=wx at *)
            | (with_reducible refine hK.out _ _ (KB.alloc hS (C #[l u y.first,l u y.max] 3)) (fun _=>hC.alloc hC.size _) ?_
               clear hS hC hCC
               intro hS hCC
               replace hCC:=hCC rfl
               have hC:=hCC
               clear hK K
               try simp only [I,F,G,H]
               have hbb:=zaa wx (C #[l u y.first,l u y.max] 3)
               try replace HRL:=Hd (HRL.out.below hbb HRL.out.lt)
               try replace HRN:=Hd (HRN.out.below hbb HRN.out.lt)
               try replace HO1:=Hd (zab HO1.out hbb (D _))
               try replace HO2:=Hd (zab HO2.out hbb (D _))
               try replace HO3:=Hd (zab HO3.out hbb (D _))
               have HRN:=Hd (J (w:=wx) (t := 3) wx.heap.size [l u y.first,l u y.max] rfl)
               have hz:=P (M _) (V wx (C #[l u y.first,l u y.max] 3)).symm
               clear hbb
               generalize wx.alloc (C #[l u y.first,l u y.max] 3)=wx at *)
            | (with_reducible refine hK.out _ _ (KB.alloc hS (C #[l u 0,d A3 ws3.length c3,E false,d g 0 0] 211)) (fun _=>hC.alloc hC.size _) ?_
               clear hS hC hCC
               intro hS hCC
               replace hCC:=hCC rfl
               have hC:=hCC
               clear hK K
               try simp only [I,F,G,H]
               have hbb:=zaa wx (C #[l u 0,d A3 ws3.length c3,E false,d g 0 0] 211)
               try replace HRL:=Hd (HRL.out.below hbb HRL.out.lt)
               try replace HRN:=Hd (HRN.out.below hbb HRN.out.lt)
               try replace HO1:=Hd (zab HO1.out hbb (D _))
               try replace HO2:=Hd (zab HO2.out hbb (D _))
               try replace HO3:=Hd (zab HO3.out hbb (D _))
               have HRZ:=Hd (J (w:=wx) (t := 211) wx.heap.size [l u 0,d A3 ws3.length c3,E false,d g 0 0] rfl)
               have hz:=P (M _) (V wx (C #[l u 0,d A3 ws3.length c3,E false,d g 0 0] 211)).symm
               clear hbb
               generalize wx.alloc (C #[l u 0,d A3 ws3.length c3,E false,d g 0 0] 211)=wx at *)
           ))
          )))
          all_goals (focus (
           refine zad (rs:=[13]) (by kernel_rfl) (by simp) ?_
           refine AllReadyT.cons (i:=13) rfl (fun K hK => ?_) ?_
           · skip
             refine zai (w:=wx) _ _ 173 rfl rfl Tryz.underlying173 HTJ.out.1 HTJ.out.2.1 HTJ.out.2.2.1 HTJ.out.2.2.2 rfl (by decide) rfl (zab HGX.out.own hC (D _)) rfl (zdW HRZ.out rfl) (by simp [Value.oneCell']) (by unfold maxLen;omega) (by omega) (by have:=hC.size;have:=HGX.out.lo;omega) ?_
             intro v9 w9 hown9 hg9 hv9
             have hlo2:=HGX.out.lo
             have HG9:=Hd ((HGX.out.below hC (D _)).more (cs:=[[l u 0,d A3 ws3.length c3,E false,d g 0 0]]) (W:=wx) (D _) (fun _ _=>rfl) hg9 hv9 (by simpa using hown9) (fun c hc=>by
              simp only [List.mem_singleton] at hc
              subst hc
              exact zdw HO3.out rfl HW3.out (by have:=HLN3.out;have:=HLN.out;omega) fun b h1 h2=>⟨by omega,h2,fun q=>by have:=(HGX.out.own.lt b q).2;omega,fun q=>q⟩))
             have HB9:=Hd ((HBW.out.trans (HBX.out.mono hlo)).trans ((hC.mono (by omega)).trans (zaC hg9 (by have:=hC.size;omega) fun q hq=>(HGX.out.own.lt q hq).1)))
             refine hK.out _ _ (KB.grow hS hg9 fun b q => .inl q) (fun q=>Z (show true=false from q)) (fun hS hCC => ?_)
             clear hK K
             try simp only [I,F,G,H]
             clear hown9 hg9 hv9
             refine zam 14 rfl hS (fun q=>Z (show true=false from q)) ?_
             try simp only [I,F,G,H]
             refine zaR (by kernel_rfl) ?_ _
             obtain ⟨A9,c9,rfl,-,-⟩:=zac HG9.out.own
             go_wp2
             go_roundw
             case rel=>exact ⟨k+1,_,by omega,by go_num,HG9.out,by rw [Y];have:=HLEN.out;simp;omega,HB9.out⟩
             case measure=>simp [intOf];omega
           exact AllReadyT.nil
          ))
        · obtain rfl:k=x.pubs.length:=by omega
          obtain ⟨AV,cV,rfl,-,-⟩:=zac HGR.out.own
          have dq:=(HBW.out.cell (p:=⟨w.heap.size,52,g⟩) (M _)).trans HQ52.out
          clear hlt
          go_wp2
          clear dq
          go_loopw [3,80] (LstR (x.r.rules.length+x.r.sets.length+x.pubs.length) x.r.subs.length (w.heap.size+1) W0) (fun _ i _=>x.r.subs.length-(intOf i).toNat)
          case atStart=>exact ⟨0,_,Q _,rfl,HGR.out,by have:=HLEN.out;omega,HBW.out⟩
          case round =>
           clear HGR HBW HLEN
           obtain ⟨k,its,hk,rfl,hg,hlen,hbel⟩:=hrel
           have HGR:=Hd hg
           have HBW:=Hd hbel
           have hlo:=hg.lo
           have hilen:its.length≤60:=by omega
           have HLEN:=Hd hlen
           clear hg hbel hlen
           by_cases hlt:k<x.r.subs.length
           · obtain ⟨b,o,cs',y,hA,hbB,hy,-,⟨rfl,hz1,hz2,hz3,hz4⟩,hat⟩:=HR4.out.at_ hlt
             subst hA
             have hbw:b<w.heap.size:=by omega
             have hcell:∀ j v,[f y.loc,f y.device,f y.set,f y.signal][j]? = some v→wr.cell? ⟨b,o+k*4+j,g⟩=some v:=fun j v hv=>(HBW.out.cell (p:=⟨b,o+k*4+j,g⟩) (by show b<_;omega)).trans ((HB.out.cell (p:=⟨b,o+k*4+j,g⟩) hbw).trans (hat j v hv))
             have e0:wr.cell? ⟨b,o+k*4,g⟩=some (f y.loc):=hcell 0 _ rfl
             have e1:=hcell 1 _ rfl
             have e2:=hcell 2 _ rfl
             have e3:=hcell 3 _ rfl
             have hki:(k:Int)<(x.r.subs.length:Int):=by omega
             have hk0:(0:Int)≤(k:Int):=by omega
             have hbl:b<wr.heap.size:=by omega
             obtain ⟨AV,cV,rfl,-,-⟩:=zac HGR.out.own
             have hbx:=zaa wr (C #[f y.loc,f y.device,f y.set,f y.signal] 62)
             have R7:Row (wr.alloc (C #[f y.loc,f y.device,f y.set,f y.signal] 62)) wr.heap.size 62 [f y.loc,f y.device,f y.set,f y.signal]:=J _ [f y.loc,f y.device,f y.set,f y.signal] rfl
             have l7:=R7.lt
             obtain ⟨f0,f1,f2,f3⟩:=kr4 R7
             have HSB:=Hd (HL.out.subs k y hy)
             have HBX:=Hd hbx
             have hsx:=hbx.size
             have HGX:=Hd (HGR.out.below hbx (D _))
             clear hcell hat hy hbx R7
             go_upto_region 22 with fail
             clear e0 e1 e2 e3
             generalize wr.alloc (C #[f y.loc,f y.device,f y.set,f y.signal] 62)=w4 at *
             go_wp2_with fail
             refine (zc5 [⟨#[115,117,98,115,99,114,105,98,101]⟩,y.loc,y.device,y.set,y.signal] 5 rfl (by decide) (by intro s hs;simp only [U,R,or_false] at hs;rcases hs with rfl | rfl | rfl | rfl | rfl;exact Wt.lit rfl;exact Wt.ok HSB.out.loc;exact Wt.ok HSB.out.device;exact Wt.ok HSB.out.set;exact Wt.ok HSB.out.signal) _ _ (J (w:=w4) (t := 9) w4.heap.size [.string ⟨#[115,117,98,115,99,114,105,98,101]⟩,.string y.loc,.string y.device,.string y.set,.string y.signal] rfl)).mono ?_
             rintro e w5 ⟨A5,c5,ws,rfl,hln,hcc,ho5,hw5,hb5⟩
             have HB5:=Hd (HBX.out.trans (((zaa w4 (C #[f ⟨#[115,117,98,115,99,114,105,98,101]⟩,f y.loc,f y.device,f y.set,f y.signal] 9)).trans (hb5.mono (by simp))).mono hsx))
             have HIT:=Hd (show ItC 1 w5 (fun b=>wr.heap.size≤b∧b<w5.heap.size) [l u 0,d A5 ws.length c5,E false,d g 0 0] () from zdw ho5 rfl hw5 (by omega) (fun b h1 h2=>⟨by simp at h1;omega,h2⟩))
             clear ho5 hw5 hb5 hln hcc f0 f1 f2 f3
             have HO5:=Hd ((zab HGR.out.own HB5.out (D _)).alloc (C #[l u 0,d A5 ws.length c5,E false,d g 0 0] 211))
             have HS5:=Hd (za5 w5 [l u 0,d A5 ws.length c5,E false,d g 0 0] 211 4 1 rfl)
             have hs5:=HB5.out.size
             go_wp2_with (at_builtin;refine zar (w:=w5.alloc (C #[l u 0,d A5 ws.length c5,E false,d g 0 0] 211)) _ _ 173 rfl rfl Tryz.underlying173 HTJ.out.1 HTJ.out.2.1 HTJ.out.2.2.1 HTJ.out.2.2.2 rfl (by decide) rfl HO5.out rfl HS5.out (by simp [Value.oneCell']) (by unfold maxLen;omega) (by omega) (by simp;omega) ?_)
             intro v9 w9 hown9 hg9 hv9
             have HG9:=Hd (zcj HGR.out HB5.out HIT.out hg9 (by simpa using hv9) (by simpa using hown9))
             have HB9:=Hd ((HBW.out.trans (HB5.out.mono hlo)).trans (((zaa w5 _).mono (by omega)).trans (zaC hg9 (by simp;omega) fun q hq=>(HO5.out.lt q hq).1)))
             clear hown9 hg9 hv9
             obtain ⟨A9,c9,rfl,-,-⟩:=zac HG9.out.own
             go_wp2
             go_roundw
             case rel=>exact ⟨k+1,_,by omega,by go_num,HG9.out,by rw [Y];have:=HLEN.out;simp;omega,HB9.out⟩
             case measure=>simp [intOf];omega
           · obtain rfl:k=x.r.subs.length:=by omega
             obtain ⟨AV,cV,rfl,hcl,hcm⟩:=zac HGR.out.own
             clear hlt
             go_wp2
             go_ret
             exact ⟨AV,cV,its,rfl,by have:=HLEN.out;omega,⟨hcl,hcm⟩,HGR.out.base (by omega),HB.out.trans (HBW.out.mono (by omega))⟩
end Go.Proofs.YtjkimieapfbhbaaGreatDoor
