/-
 The compiler's sender: a relay's publications are added, its table without inputs is returned.
-/
import Derived.Test.YtjkimieapfbhbaaGreatDoorKQb
set_option maxRecDepth 100000
set_option maxHeartbeats 16000000
open Go.Value renaming slice → u, int → C, string → G
open Go.IntKind renaming i64 → D
open Option renaming none → E
open Go.Obj renaming cells → F
open Nat renaming le_refl → I, le_trans → O, zero_le → V
open And renaming intro → J
open List renaming length_map → Q, mem_of_getElem? → Y, getElem?_append_left → Z, getElem?_map → ja, length_append → jb
open Go.World renaming size_setCell → S, size_alloc → T, cell? → U, ownsRow_nil → jc
namespace Go.Proofs.YtjkimieapfbhbaaGreatDoor
open Go.RowKit
theorem zmf:(Tryz.prog.info? 3).map (fun i=>(i.zero,i.size,i.bytes))=some (some (C D 0),1,8):=by kernel_rfl
theorem zmg:(Tryz.prog.info? 97).map (fun i=>(i.zero,i.size,i.bytes))=some (some (.agg #[C D 0,C D 0,C D 0,C D 0,u E 0 0]),5,56):=by kernel_rfl
structure PreI (W:World) (base g:Nat) (a0 a1 a2 a3 a4 a5:Value) (nm:Option Nat) (L:List PubE) (v7 v8:Value) (ys:List PubT) (K:Nat→Prop):Prop where
 cp:CpB W g a0 a1 a2 a3 a4 a5 nm v7 v8
 num:NumS W g nm L
 own7:W.ownsRow base 97 5 v7 L.length (ys.flatMap zd7)
 ysL:ys.map (·.1)=L
 sig:∀ y∈ys,SigR W K y
 frm:Frm W.heap.size K [some g,nm,v7.ownBlock]
def zlE (base g:Nat) (a0 a1 a2 a3 a4 a5:Value) (L:List PubE) (v8:Value) (X K:Nat→Prop) (outs:List ByteArray) (w:World) (e:Ending) (w':World):Prop:=
 ∃ A2 c2 vS nm' v7' ys' K',e = .returned (.agg #[u A2 outs.length c2,vS,u E 0 0])∧outs.length≤c2∧c2≤maxLen∧vS.oneCell'=true∧PreI w' base g a0 a1 a2 a3 a4 a5 nm' L v7' v8 ys' K'∧Rw StrK 1 w' K' A2 outs.length outs ∧
  (∀ b,K b→K' b)∧KeepOn K w w'∧KB X w w'∧(∀ m,nm'=some m→X m∨w.heap.size≤m)∧(∀ b,v7'.ownBlock=some b→X b∨w.heap.size≤b)∧(∀ b,K' b→K b∨w.heap.size≤b)
def SndR (w w3:World) (X K0:Nat→Prop) (base g gt:Nat) (a0 a1 a2 a3 a4 a5:Value) (L M:List PubE) (v8:Value) (K1:Nat→Prop) (c:Value) (N:Nat) (i:Value) (wr:World):Prop:=
 ∃ k nm v7 ys K vS ns,k≤N∧i = C D (k:Int)∧SndI wr base w.heap.size g gt w.heap.size a0 a1 a2 a3 a4 a5 nm (L++M.take k) (L++M.take k) v7 v8 ys K c vS ns k []∧(∀ b,K1 b→K b)∧KeepOn K1 w3 wr∧KB X w wr∧w3.heap.size≤wr.heap.size ∧
  (∀ m,nm=some m→X m∨w.heap.size≤m)∧(∀ b,v7.ownBlock=some b→X b∨w.heap.size≤b)∧(∀ b,K b→K0 b∨w.heap.size≤b)
def SigL (w w6:World) (X:Nat→Prop) (base g gt gb:Nat) (a0 a1 a2 a3 a4 a5:Value) (nm:Option Nat) (L:List PubE) (v7 v8:Value) (ys:List PubT) (K:Nat→Prop) (c vS:Value) (ns:List Value) (k:Nat) (r t f m:Int) (sg:List Int) (N:Nat) (i:Value) (wr:World):Prop:=
 ∃ (j:Nat) (vG:Value),j≤N∧i = C D (j:Int)∧SndI wr base w.heap.size g gt w.heap.size a0 a1 a2 a3 a4 a5 nm L L v7 v8 ys K c vS ns k [some gb,vG.ownBlock]∧OutI wr w.heap.size gb r t f m vG j ((sg.take j).flatMap fun n=>[C D n])∧KeepOn K w6 wr∧KB X w wr∧w6.heap.size≤wr.heap.size
theorem zjt {L M:List PubE} (h:zfp (L++M)):zfp L:=fun m n a b hmn ha hb=>h m n a b hmn (by rw [Z (List.getElem?_eq_some_iff.1 ha).1];exact ha) (by rw [Z (List.getElem?_eq_some_iff.1 hb).1];exact hb)
theorem zle {α β:Type} (f:α→β) (l:List α):l.map f=l.flatMap fun x=>[f x]:=by induction l <;> simp_all
theorem keepK {K:Nat→Prop} {w w':World} {g i:Nat} {v:Value} (h:KeepOn K w w') (hg:K g) (hc:w.cell? ⟨g,i,E⟩=some v):w'.cell? ⟨g,i,E⟩=some v:=(World.cell?_of_block (a:=⟨g,i,E⟩) (h g hg)).trans hc
theorem SndI.pre {W W':World} {base bS g gt gr:Nat} {a0 a1 a2 a3 a4 a5:Value} {nm:Option Nat} {L:List PubE} {v7 v8:Value} {ys:List PubT} {K:Nat→Prop} {c vS:Value} {ns:List Value} {k:Nat} (h:SndI W base bS g gt gr a0 a1 a2 a3 a4 a5 nm L L v7 v8 ys K c vS ns k [])
 (hk:∀ b,b≠gr→W'.heap[b]? = W.heap[b]?) (hs:W'.heap.size=W.heap.size):PreI W' base g a0 a1 a2 a3 a4 a5 nm L v7 v8 ys K∧KeepOn K W W':=by
 have nb:∀ (i:Nat) (b:Nat),i≠5→(some g::nm::v7.ownBlock::some gt::vS.ownBlock::some gr::[])[i]? = some (some b)→W'.heap[b]? = W.heap[b]? := fun i b hi hb=>hk b fun z=>h.frm.neb (i:=i) (j:=5) hi hb rfl (by rw [z])
 have hK:KeepOn K W W':=fun b hb=>hk b fun z=>(h.frm.kl b hb).2 (by simp [z])
 have f3:Frm W'.heap.size K [some g,nm,v7.ownBlock]:=by
  rw [hs]
  exact h.frm.remap id (show ∀ i,i<3→∀ j,j<3→id i=id j→i=j by decide) fun i hi=>by
   have:i<3:=hi
   rcases i with _ | _ | _ | i
   all_goals first | rfl | omega
 exact ⟨⟨h.cp.kept (nb 0 g (by decide) rfl),h.num.kept fun b hb=>nb 1 b (by decide) (by simp [hb]),za3 h.own7 fun b hb=>nb 2 b (by decide) (by simp [hb]),h.ysL,fun y hy=>(h.sig y hy).mono (fun _ q=>q) hK,f3⟩,hK⟩
attribute [local go_sem ↓] zav zaw
attribute [local go_sem] zay zaz
theorem zkp (B base g ix cc:Nat) (a0 a1 a2 a3 a4:Value) (A:Option Addr) (xs:List RelayX) (x:RelayX) (nm:Option Nat) (L:List PubE) (v7 v8:Value) (ys:List PubT) (K:Nat→Prop) (w:World)
 (hB:B≤base) (hbs:base≤w.heap.size) (X:Nat→Prop) (xg:X g) (xn:∀ m,nm=some m→X m) (xv:∀ m,v7.ownBlock=some m→X m) (xB:∀ b,X b→B≤b) (h:PreI w base g a0 a1 a2 a3 a4 (u A xs.length cc) nm L v7 v8 ys K) (hr:Rws RelayXC 53 w B A xs.length xs) (hx:xs[ix]? = some x) (hxl:xs.length≤20)
 (hset:∀ p∈x.pubs,∃ d,x.r.sets[zcT x.r p.set]? = some d∧d.1=p.set) (hap:zfp (L++zbR ix x)) (hc:CountF x.r) (hLn:L.length≤900) :
 Calls Tryz.prog 36 #[.pointer (some ⟨g,0,E⟩),C D (ix:Int)] w (zlE base g a0 a1 a2 a3 a4 (u A xs.length cc) (L++zbR ix x) v8 X K x.r.outputs w):=by
 obtain ⟨i0,hi,hz0,hz1,hz2⟩:=info_parts zmf;have HTI:=Hd (J hi (J hz0 (J hz1 hz2)));obtain ⟨i1,hi1,hy0,hy1,hy2⟩:=info_parts zmg;have HTP:=Hd (J hi1 (J hy0 (J hy1 hy2)));clear hi hz0 hz1 hz2 hi1 hy0 hy1 hy2;have hixl:ix<xs.length:=(List.getElem?_eq_some_iff.1 hx).1;have hixi:(ix:Int)<(xs.length:Int):=by omega
 have hix0:(0:Int)≤(ix:Int):=by omega
 have hBw:B≤w.heap.size:=O hB hbs;obtain ⟨b,o,cs,x',hA,hbB,hx',hlen,hR,hat⟩:=hr.at_ hixl;rw [hx] at hx'
 cases hx'
 cases hA
 have hone:=hR.base.one;have hbx:zdi 53 cs:=⟨hlen,hone⟩;obtain ⟨u1,u2,u3,u4,u5⟩:=hc;have hres:=zaa w (F #[u E 0 0,u E 0 0,u E 0 0] 67);have hrow:zbG (w.alloc (F #[u E 0 0,u E 0 0,u E 0 0] 67)) b (o+ix*53) 53=some cs:=zal (zbs hat hlen) hres (by omega);have hbw:b<w.heap.size:=by omega
 have hb2:=hres.trans ((zaa (w.alloc (F #[u E 0 0,u E 0 0,u E 0 0] 67)) (F cs.toArray 60)).mono hres.size);have hrowN:zbG ((w.alloc (F #[u E 0 0,u E 0 0,u E 0 0] 67)).alloc (F cs.toArray 60)) (w.heap.size+1) 0 53=some cs:=zcB _ cs 60 (w.heap.size+1) 53 (by simp) hbx;obtain ⟨-,-,-,-,-,d5,-,-,-⟩:=(h.cp.kept (hres.block g h.cp.lt)).cells;have hgl:g<w.heap.size:=h.cp.lt;have HC:=Hd (zeC cs x.r B ((w.alloc (F #[u E 0 0,u E 0 0,u E 0 0] 67)).alloc (F cs.toArray 60)) (O hBw hb2.size) (RelayC.mono _ _ _ _ _ _ (I _) (hb2.mono hBw) hR.base) (by omega))
 have q50:∃ A50 k50,((w.alloc (F #[u E 0 0,u E 0 0,u E 0 0] 67)).alloc (F cs.toArray 60)).cell? ⟨w.heap.size+1,50,E⟩=some (u A50 x.r.sets.length k50)∧Rws SetC 2 w B A50 x.r.sets.length x.r.sets:=by
  obtain ⟨c50,h50,A50,k50,e50,-,-,R50⟩:=hR.base.sets
  cases e50
  exact ⟨A50,k50,zh5 (by simp) h50,R50⟩
 have q51:∃ A51 k51,((w.alloc (F #[u E 0 0,u E 0 0,u E 0 0] 67)).alloc (F cs.toArray 60)).cell? ⟨w.heap.size+1,51,E⟩=some (u A51 x.pubs.length k51)∧Rws PubNC 3 w B A51 x.pubs.length x.pubs:=by
  obtain ⟨c51,h51,A51,k51,e51,-,-,R51⟩:=hR.pubs
  cases e51
  exact ⟨A51,k51,zh5 (by simp) h51,R51⟩
 obtain ⟨A50,k50,q50,R50⟩:=q50;obtain ⟨A51,k51,q51,R51⟩:=q51;have u3':x.pubs.length≤4:=by have e:=hR.same;rw [e,Q] at u3;exact u3
 have hsO:=zcN hR.base;have hlO:x.r.outputs.length≤36:=by have:=zbS x.r.kind;simp only [RelayM.outputs,jb,Q];omega
 have HSO:=Hd hsO;have H:=Hd h;have HU5:=Hd u5;have HR50:=Hd R50;have HR51:=Hd R51;have HX:=Hd hx;have HSET:=Hd hset;have HAP:=Hd hap;have HB2:=Hd hb2;have HXN:=Hd xn;have HXV:=Hd xv;have HXB:=Hd xB;have hgz:w.heap.size+1<((w.alloc (F #[u E 0 0,u E 0 0,u E 0 0] 67)).alloc (F cs.toArray 60)).heap.size:=by simp
 have hres1:((w.alloc (F #[u E 0 0,u E 0 0,u E 0 0] 67)).alloc (F cs.toArray 60)).heap[w.heap.size]? = some (.cells #[u E 0 0,u E 0 0,u E 0 0] 67 (0,0)):=(Below.heap_alloc _ _ _ (by simp)).trans (heap_alloc_new w _);clear h hr hx hat hlen hR hres hb2 hsO hset hap u3 u5 R50 R51 hone xn xv xB;go_enter Tryz.func36,Tryz.ntmps36;go_wp2_with fail
 generalize (w.alloc (F #[u E 0 0,u E 0 0,u E 0 0] 67)).alloc (F cs.toArray 60)=W1 at *;refine HC.out.mono ?_
 rintro e w2 ⟨A2,c2,rfl,hc2,hm2,ho2,hb3⟩
 have hgt0:=hb3.size;have p50:=(hb3.cell (p:=⟨w.heap.size+1,50,E⟩) hgz).trans q50;have p51:=(hb3.cell (p:=⟨w.heap.size+1,51,E⟩) hgz).trans q51;have hbt:=zaa w2 (F #[u A2 x.r.outputs.length c2,u E 0 0,u E 0 0] 67);have r50:=(hbt.cell (p:=⟨w.heap.size+1,50,E⟩) (by show w.heap.size+1<_;omega)).trans p50;have r51:=(hbt.cell (p:=⟨w.heap.size+1,51,E⟩) (by show w.heap.size+1<_;omega)).trans p51;have hwW:=HB2.out.size;have hw3:Below w.heap.size w (w2.alloc (F #[u A2 x.r.outputs.length c2,u E 0 0,u E 0 0] 67)):=(HB2.out.trans (hb3.mono hwW)).trans (hbt.mono (by omega))
 have hS:SndI (w2.alloc (F #[u A2 x.r.outputs.length c2,u E 0 0,u E 0 0] 67)) base w.heap.size g w2.heap.size w.heap.size a0 a1 a2 a3 a4 (u (some ⟨b,o,E⟩) xs.length cc) nm L L v7 v8 ys (fun b=>K b∨b=w.heap.size+1∨(u A2 x.r.outputs.length c2).ownBlock=some b) (u A2 x.r.outputs.length c2) (u E 0 0) [] 0 []:=by
  have hh:=H.out;have kk:∀ b,b<w.heap.size→(w2.alloc (F #[u A2 x.r.outputs.length c2,u E 0 0,u E 0 0] 67)).heap[b]? = w.heap[b]? := fun b hb=>hw3.block b hb
  refine ⟨hh.cp.kept (kk g hgl),hh.num.kept fun m hm=>kk m (hh.num.lt m hm).1,za3 hh.own7 fun b hb=>kk b (hh.own7.lt b hb).2,hh.ysL,fun y hy=>(hh.sig y hy).mono (fun _ q => .inl q) fun b hb=>kk b (hh.frm.kl b hb).1,?_,jc _ _ _ _,(hbt.block w.heap.size (by omega)).trans ((hb3.block w.heap.size (by omega)).trans hres1),?_⟩
  · exact heap_alloc_new _ _
  · have f0:Frm (w.heap.size+1) K [some g,nm,v7.ownBlock,some w.heap.size]:=hh.frm.fresh
    have f1:Frm w2.heap.size (fun b=>K b∨b=w.heap.size+1∨(u A2 x.r.outputs.length c2).ownBlock=some b) [some g,nm,v7.ownBlock,some w.heap.size]:=by
     refine (f0.mono (by omega)).more fun q hq => ?_
     rcases hq with hq | rfl | hq
     · exact .inl hq
     · exact .inr ⟨by omega,fun z=>by have:=f0.lt _ z;omega⟩
     · have:=ho2.lt q hq
       exact .inr ⟨this.2,fun z=>by have:=f0.lt _ z;omega⟩
    have f2:=f1.fresh.nil
    rw [T]
    exact zkr f2
 have hO:Rw StrK 1 (w2.alloc (F #[u A2 x.r.outputs.length c2,u E 0 0,u E 0 0] 67)) (fun b=>K b∨b=w.heap.size+1∨(u A2 x.r.outputs.length c2).ownBlock=some b) A2 x.r.outputs.length x.r.outputs:=by
  have e:x.r.outputs.map G=x.r.outputs.flatMap fun s=>[G s]:=zle _ _
  rw [e] at ho2;exact zkl (R:=StrK) (ho2.alloc _) rfl (fun _ _=>rfl) (fun s hs=>⟨rfl,HSO.out s hs⟩) fun q hq => .inr (.inr hq)
 have hgtB:w.heap.size+1<w2.heap.size:=by omega
 have hgtw:w.heap.size≤w2.heap.size:=by omega
 have HA2:=Hd (show ∀ q,(u A2 x.r.outputs.length c2).ownBlock=some q→w.heap.size≤q from fun q hq=>by have:=(ho2.lt q hq).1;omega);have HS:=Hd hS;have HO:=Hd hO;have HW3:=Hd hw3;have hg3:w2.heap.size<(w2.alloc (F #[u A2 x.r.outputs.length c2,u E 0 0,u E 0 0] 67)).heap.size:=by simp
 clear hS hO hw3 hbt hres1 p50 p51 q50 q51 hb3 ho2 hrow hrowN d5 HC hgt0 hwW;go_upto_region 3 with fail
 generalize w2.alloc (F #[u A2 x.r.outputs.length c2,u E 0 0,u E 0 0] 67)=w3 at *;generalize w2.heap.size=gt at *;generalize hK1:(fun b=>K b∨b=w.heap.size+1∨(u A2 x.r.outputs.length c2).ownBlock=some b)=K1 at *;have k1g:K1 (w.heap.size+1):=by rw [← hK1];exact .inr (.inl rfl)
 have HKK:=Hd (show ∀ b,K b→K1 b by intro b hb;rw [← hK1];exact .inl hb)
 have HK0:=Hd (show ∀ b,K1 b→K b∨w.heap.size≤b by
  intro q hq;rw [← hK1] at hq
  rcases hq with hq | hq | hq
  · exact .inl hq
  · exact .inr (by omega)
  · exact .inr (HA2.out q hq))
 clear hK1;go_wp2
 go_loopw [27] (SndR w w3 X K base g gt a0 a1 a2 a3 a4 (u (some ⟨b,o,E⟩) xs.length cc) L (zbR ix x) v8 K1 (u A2 x.r.outputs.length c2) x.pubs.length) (fun i _=>x.pubs.length-(intOf i).toNat)
 case atStart=>exact ⟨0,nm,v7,ys,K1,u E 0 0,[],V _,rfl,by rw [List.take_zero,List.append_nil];exact HS.out,fun _ q=>q,KeepOn.refl _ _,KB.of_below HW3.out,I _,fun m hm => .inl (HXN.out m hm),fun m hm => .inl (HXV.out m hm),HK0.out⟩
 case round =>
  obtain ⟨k,nm',v7',ys',K',vS,ns,hk,rfl,hS,hKs,hKp,hbel,hs3,hmB,hvB,hK0⟩:=hrel;have hwb:=hbel.below hBw HXB.out;have hws:=hwb.size;have c50:=keepK hKp k1g r50;have c51:=keepK hKp k1g r51;have hgr:w.heap.size+1<wr.heap.size:=by omega
  by_cases hlt:k<x.pubs.length
  · obtain ⟨b3,o3,cs3,p,hA3,hb3,hpx,-,⟨rfl,hps⟩,hat3⟩:=(HR51.out.mono PubNC.mono (I _) hwb).at_ hlt
    cases hA3
    have z_0:=zae hat3 0 rfl
    have z_1:=zae hat3 1 rfl
    have z_2:=zae hat3 2 rfl
    simp only [Nat.add_zero] at z_0
    have hbw3:b3<wr.heap.size:=by omega
    have hbp:=zaa wr (F #[G p.set,C D p.first,C D p.max] 158)
    have e50:=(hbp.cell (p:=⟨w.heap.size+1,50,E⟩) hgr).trans c50
    have y0:(wr.alloc (F #[G p.set,C D p.first,C D p.max] 158)).cell? ⟨wr.heap.size,0,E⟩=some (G p.set):=by simp
    have y1:(wr.alloc (F #[G p.set,C D p.first,C D p.max] 158)).cell? ⟨wr.heap.size,1,E⟩=some (C D p.first):=by simp
    have y2:(wr.alloc (F #[G p.set,C D p.first,C D p.max] 158)).cell? ⟨wr.heap.size,2,E⟩=some (C D p.max):=by simp
    have gp:wr.heap.size<(wr.alloc (F #[G p.set,C D p.first,C D p.max] 158)).heap.size:=by simp
    have hBr:B≤wr.heap.size:=by omega
    obtain ⟨d,hd,hd1⟩:=HSET.out p (Y hpx)
    have hidx:idx (fun r=>same r.1 p.set) x.r.sets=((zcT x.r p.set:Nat):Int):=by
     have hne:idx (fun r=>same r.1 p.set) x.r.sets ≠ -1:=by
      intro q
      rcases zba (fun r:ByteArray × List ByteArray=>same r.1 p.set) x.r.sets with ⟨-,hno⟩ | ⟨n,y,q2,-,-,-⟩
      · have:=hno d (Y hd)
        rw [hd1] at this
        simp [same] at this
      · omega
     have:=ze9 (fun r:ByteArray × List ByteArray=>same r.1 p.set) x.r.sets
     unfold zcT
     omega
    have C1:=zhs A50 k50 B wr.heap.size x.r.sets p.set (wr.alloc (F #[G p.set,C D p.first,C D p.max] 158)) (O hBr hbp.size) (HR50.out.mono SetC.mono (I _) (hwb.trans (hbp.mono hBr))) (by omega) gp y0
    rw [hidx] at C1
    have HC1:=Hd C1
    have HS1:=Hd (hS.below hbp)
    have HKL:=Hd (show ∀ b,K' b→b<wr.heap.size from fun b hb=>(hS.frm.kl b hb).1)
    have HKs:=Hd hKs
    have HKp:=Hd hKp
    have HBP:=Hd hbp
    have HWB:=Hd hwb
    have HBEL:=Hd hbel
    have HPX:=Hd hpx
    have HD:=Hd hd
    have HMB':=Hd hmB
    have HVB':=Hd hvB
    have HK0':=Hd hK0
    have htl:zcT x.r p.set<x.r.sets.length:=(List.getElem?_eq_some_iff.1 hd).1
    obtain ⟨v1,v2⟩:=HU5.out _ d hd
    have hmf:∀ (fn:Fn) (first cap:Array Value) (w:World),(Instr.makeFunc fn first cap).run Tryz.prog w = .ok (.func fn first cap) w:=fun _ _ _ _=>rfl
    obtain ⟨t,ht⟩:∃ t:Nat,zcT x.r p.set=t:=⟨_,rfl⟩
    rw [ht] at HC1 HD htl
    have HT:=Hd ht
    clear hS hKs hKp hbp hwb hbel hpx hd hd1 hidx C1 hat3 hps hmB hvB hK0 c50 c51 ht
    go_wp2_with fail
    clear hmf
    generalize wr.alloc (F #[G p.set,C D p.first,C D p.max] 158)=wp at *
    refine HC1.out.mono ?_
    rintro e w5 ⟨rfl,hb5⟩
    have hgr2:w.heap.size+1<wp.heap.size:=by omega
    have f50:=(hb5.cell (p:=⟨w.heap.size+1,50,E⟩) hgr2).trans e50
    have x1:=(hb5.cell (p:=⟨wr.heap.size,1,E⟩) gp).trans y1
    have x2:=(hb5.cell (p:=⟨wr.heap.size,2,E⟩) gp).trans y2
    have hbo:=zaa w5 (F #[C D (ix:Int),C D (t:Int),C D p.first,C D p.max,u E 0 0] 97)
    have h5s:=hb5.size
    have g50:=(hbo.cell (p:=⟨w.heap.size+1,50,E⟩) (by show w.heap.size+1<_;omega)).trans f50
    have hwp5:=(HBP.out.trans (hb5.mono HBP.out.size)).trans (hbo.mono (by have:=HBP.out.size;omega))
    have hS6:SndI (w5.alloc (F #[C D (ix:Int),C D (t:Int),C D p.first,C D p.max,u E 0 0] 97)) base w.heap.size g gt w.heap.size a0 a1 a2 a3 a4 (u (some ⟨b,o,E⟩) xs.length cc) nm' (L++(zbR ix x).take k) (L++(zbR ix x).take k) v7' v8 ys' K' (u A2 x.r.outputs.length c2) vS ns k [some w5.heap.size,E]:=by
     have q1:=HS1.out.below hb5
     have q2:=q1.below hbo
     exact ⟨q2.cp,q2.num,q2.own7,q2.ysL,q2.sig,q2.box,q2.ownS,q2.res,by rw [T];exact q1.frm.fresh.nil⟩
    have hO6:OutI (w5.alloc (F #[C D (ix:Int),C D (t:Int),C D p.first,C D p.max,u E 0 0] 97)) w.heap.size w5.heap.size ix t p.first p.max (u E 0 0) 0 []:=⟨heap_alloc_new _ _,jc _ _ _ _⟩
    have HS6:=Hd hS6
    have HO6:=Hd hO6
    have HWP5:=Hd hwp5
    have hg5:w5.heap.size<(w5.alloc (F #[C D (ix:Int),C D (t:Int),C D p.first,C D p.max,u E 0 0] 97)).heap.size:=by simp
    have hgbw:w.heap.size≤w5.heap.size:=by have:=HBP.out.size;omega
    have HKB6:=Hd (HBEL.out.thenB hwp5)
    have hgbB:B≤w5.heap.size:=by have:=HBP.out.size;omega
    clear hS6 hO6 hwp5 hbo f50 hb5 e50 y0 y1 y2
    go_upto_region 8 with fail
    generalize w5.alloc (F #[C D (ix:Int),C D (t:Int),C D p.first,C D p.max,u E 0 0] 97)=w6 at *
    generalize w5.heap.size=gb at *
    clear x1 x2
    have hw6:=HWB.out.trans (HWP5.out.mono hBr)
    obtain ⟨b4,o4,cs4,d',hA4,hb4,hd',-,⟨v4,rfl,hds,A4,k4,e4,l4,m4,R4⟩,hat4⟩:=HR50.out.at_ htl
    cases hA4
    cases e4
    rw [HD.out] at hd'
    cases hd'
    have s1:=zae (zbr hat4 hw6 hb4) 1 rfl
    have hti:(t:Int)<(x.r.sets.length:Int):=by omega
    have hti0:(0:Int)≤(t:Int):=by omega
    have hb46:b4<w6.heap.size:=by have:=hw6.size;omega
    have HR4:=Hd R4
    have HW6:=Hd hw6
    clear hw6 R4 hat4 hds l4 m4
    go_wp2
    have sz6:w3.heap.size≤w6.heap.size:=O hs3 HWP5.out.size
    have HKW6:=Hd (HKp.out.trans (fun q hq=>HWP5.out.block q (HKL.out q (HKs.out q hq))))
    have HOK:=Hd (HO.out.mono StrK.mono (fun _ q=>q) (HKp.out.trans (fun q hq=>HWP5.out.block q (HKL.out q (HKs.out q hq)))))
    go_loopw [49] (SigL w w6 X base g gt gb a0 a1 a2 a3 a4 (u (some ⟨b,o,E⟩) xs.length cc) nm' (L++(zbR ix x).take k) v7' v8 ys' K' (u A2 x.r.outputs.length c2) vS ns k ix t p.first p.max (d.2.map (zch x.r)) d.2.length) (fun i _=>d.2.length-(intOf i).toNat)
    case atStart=>exact ⟨0,u E 0 0,V _,rfl,HS6.out,HO6.out,KeepOn.refl _ _,HKB6.out,I _⟩
    case round =>
     obtain ⟨j,vG,hj,rfl,hSj,hOj,hkj,hbj,hs6j⟩:=hrel
     by_cases hjt:j<d.2.length
     · obtain ⟨b7,o7,s,hA7,hb7,hsx,hss,hsc⟩:=(HR4.out.mono StrC.mono (I _) (hbj.below hBw HXB.out)).strAt hjt
       cases hA7
       obtain ⟨AG,cG,rfl,-,-⟩:=zac hOj.own
       have gs4:=hOj.cells.2.2.2.2
       have gt0:=hSj.cells.1
       have lgb:=hOj.lt
       have lgt:=hSj.lt
       have hwwr:=hbj.size
       have hb7w:b7<wr.heap.size:=by omega
       have HIX:=Hd (fun W':World=>fun hk':KeepOn K1 w6 W'=>zfk A2 c2 w3.heap.size x.r.outputs s W' (zms (HOK.out.mono StrK.mono (fun _ q=>q) hk') (fun q hq=>(HS.out.frm.kl q hq).1)) (by omega))
       have hkk:KeepOn K1 w6 wr:=hkj.mono HKs.out
       have HKJ:=Hd hkk
       have HSJ:=Hd hSj
       have HOJ:=Hd hOj
       have HSX:=Hd hsx
       have HBJ:=Hd hbj
       have HKJ2:=Hd hkj
       have HNE:=Hd (show ∀ W',KeepOn K1 w6 W'→Calls Tryz.prog 74 #[u A2 x.r.outputs.length c2,G s] W' (fun e w'=>e = .returned (C D (zch x.r s))∧W'=w') from fun W' h'=>HIX.out W' h')
       clear hSj hOj hsx hbj hkj hkk hss
       have HOW:=Hd (show ((wr.alloc (F #[C D (zch x.r s)] 3)).drew).ownsRow w.heap.size 3 1 (u AG j cG) j (((d.2.map (zch x.r)).take j).flatMap fun n=>[C D n]) from HOJ.out.own.drew.alloc _)
       have HSR:=Hd (show Src ((wr.alloc (F #[C D (zch x.r s)] 3)).drew) 1 (some ⟨wr.heap.size,0,E⟩) 1 [C D (zch x.r s)] from za5 wr.drew [C D (zch x.r s)] 3 1 1 rfl)
       have HSA:=Hd (show SndI ((wr.alloc (F #[C D (zch x.r s)] 3)).drew) base w.heap.size g gt w.heap.size a0 a1 a2 a3 a4 (u (some ⟨b,o,E⟩) xs.length cc) nm' (L++(zbR ix x).take k) (L++(zbR ix x).take k) v7' v8 ys' K' (u A2 x.r.outputs.length c2) vS ns k [some gb,(u AG j cG).ownBlock] from (HSJ.out.below (zaa _ _)).drew)
       have HOA:=Hd (show OutI ((wr.alloc (F #[C D (zch x.r s)] 3)).drew) w.heap.size gb ix t p.first p.max (u AG j cG) j (((d.2.map (zch x.r)).take j).flatMap fun n=>[C D n]) from (HOJ.out.below (zaa _ _)).drew)
       go_wp2
       go_region_law (first
        | ((refine zai (o:=⟨some 60,_,_,_,_,_⟩) (w:=(wr.alloc (F #[C D (zch x.r s)] 3)).drew) _ _ 64 rfl rfl Tryz.underlying64 HTI.out.1 HTI.out.2.1 HTI.out.2.2.1 HTI.out.2.2.2 rfl (by decide) rfl HOW.out rfl HSR.out (by simp [Value.oneCell']) (by unfold maxLen;omega) (by omega) (by simp;omega) ?_;intro v8' w8 hown8 hg8 hv8;obtain ⟨mc,mf,ml⟩:=HSA.out.midG HOA.out hg8;obtain ⟨A8,k8,hv8e,-,-⟩:=zac hown8;have HO8:=Hd hown8;have HG8:=Hd hg8;have HV8:=Hd hv8;clear hown8 hg8 hv8;subst hv8e))
        | ((go_simp;go_at_call 74;refine (HNE.out _ (by exact HKJ.out)).mono ?_;rintro e w7 ⟨rfl,rfl⟩)))
       all_goals
        go_wp2
        go_roundw
        case rel =>
         obtain ⟨q1,q2⟩:=HSA.out.signal HOA.out HG8.out HV8.out HO8.out
         refine ⟨j+1,u A8 (j+1) k8,by omega,by go_num,q1,?_,?_,?_,?_⟩
         · rw [List.take_add_one,ja,HSX.out]
           simpa using q2
         · exact (HKJ2.out.trans fun q hq=>(Below.heap_alloc wr _ q (HSJ.out.frm.kl q hq).1)).trans (HSA.out.keptG HG8.out 4 _)
         · exact ((HBJ.out.alloc _).drew.grow HG8.out fun q hq => .inr (HOA.out.own.lt q hq).1).setAt (.inr hgbw) 4 _
         · have:=HG8.out.size
           rw [S]
           have h2:(wr.alloc (F #[C D (zch x.r s)] 3)).drew.heap.size=wr.heap.size+1:=by simp
           omega
        case measure=>simp [intOf];omega
     · obtain rfl:j=d.2.length:=by omega
       obtain ⟨AG,cG,rfl,hcG,hmG⟩:=zac hOj.own
       obtain ⟨AS,cS,rfl,-,-⟩:=zac hSj.ownS
       obtain ⟨a,ha⟩:∃ a,pubE ix x p=a:=⟨_,rfl⟩
       have ha2:a=⟨ix,t,p.first,p.max,d.2.map (zch x.r)⟩:=by rw [← ha,pubE,HT.out,zdZ,HD.out];rfl
       have hak:(zbR ix x).take (k+1)=(zbR ix x).take k++[a]:=by
        rw [List.take_add_one,zbR,ja,HPX.out]
        simp [ha]
       have hno:zca (L++(zbR ix x).take k) a.relay a.set=E:=by
        refine zj7 (zjt (M:=(zbR ix x).drop (k+1)) ?_)
        rw [List.append_assoc L,← hak,List.append_assoc,List.take_append_drop]
        exact HAP.out
       have hk4:((zbR ix x).take k).length≤4:=by rw [List.length_take,zbR,Q];omega
       obtain ⟨n0,hn0⟩:∃ n0,(L++(zbR ix x).take k).length=n0:=⟨_,rfl⟩
       have hn0l:n0≤904:=by rw [← hn0,jb];omega
       have HADD:=Hd (show ∀ W':World,W'.heap=wr.heap→Calls Tryz.prog 75 #[.pointer (some ⟨g,6,E⟩),.agg #[C D (ix:Int),C D (t:Int)]] W' (fun e w'=>e = .returned (C D (n0:Int))∧∃ nm2,CpB w' g a0 a1 a2 a3 a4 (u (some ⟨b,o,E⟩) xs.length cc) nm2 v7' v8∧NumS w' g nm2 (L++(zbR ix x).take k++[a])∧(∀ m,nm2=some m→nm'=some m∨W'.heap.size≤m)∧KB (fun b=>b=g∨nm'=some b) W' w') by
        intro W' hW'
        have:=zjr g a0 a1 a2 a3 a4 (u (some ⟨b,o,E⟩) xs.length cc) v7' v8 nm' (L++(zbR ix x).take k) a W' (hSj.cp.kept (by rw [hW'])) (hSj.num.kept fun m _=>by rw [hW']) (by omega) (by rw [ha2];show ix<1000;omega) (by rw [ha2];show t<1000;omega) hno
        unfold zlD at this
        rw [hn0,ha2] at this
        rw [ha2]
        exact this)
       have HA2:=Hd ha2
       have HAK:=Hd hak
       have HN0:=Hd hn0
       have HSJ:=Hd hSj
       have HOJ:=Hd hOj
       have HBJ:=Hd hbj
       have HKJ2:=Hd hkj
       have gt1:=hSj.cells.2.1
       have lgt:=hSj.lt
       have lg:=hSj.cp.lt
       have hwwr:=hbj.size
       clear hSj hOj hbj hkj ha ha2 hak hno hn0
       go_wp2
       go_region_law (first
        | ((refine zai (o:=⟨some 73,_,_,_,_,_⟩) (w:=w7.alloc (F #[C D (n0:Int)] 3)) _ _ 64 rfl rfl Tryz.underlying64 HTI.out.1 HTI.out.2.1 HTI.out.2.2.1 HTI.out.2.2.2 rfl (by decide) rfl HOW7.out rfl HSR7.out (by simp [Value.oneCell']) (by unfold maxLen;omega) (by omega) (by simp;omega) ?_;intro v8' w8 hown8 hg8 hv8;obtain ⟨mc,mf,ml⟩:=HS7.out.midS hg8;obtain ⟨A8,k8,hv8e,-,-⟩:=zac hown8;have HO8:=Hd hown8;have HG8:=Hd hg8;have HV8:=Hd hv8;clear hown8 hg8 hv8;subst hv8e))
        | ((go_simp;go_at_call 75;refine (HADD.out _ (by rfl)).mono ?_;rintro e w7 ⟨rfl,nm2,hc7,hn7,hf7,hk7⟩;have S6:=HSJ.out.drew;have S7:=SndI.numbered S6 hc7 hn7 hf7 hk7;have O7:=OutI.numbered HOJ.out.drew S6 hk7;have gt7:=S7.cells.2.1;have lgt7:=S7.lt;have HOW7:=Hd (S7.ownS.alloc (F #[C D (n0:Int)] 3));have HSR7:=Hd (za5 w7 [C D (n0:Int)] 3 1 1 rfl);have HS7:=Hd (S7.below (zaa w7 (F #[C D (n0:Int)] 3)));have HO7:=Hd (O7.below (zaa w7 (F #[C D (n0:Int)] 3)));have hs7:=hk7.size;have HKN:=Hd (S6.keptN hk7);have HKB:=Hd hk7;have HF7:=Hd hf7;have HKS7:=Hd S7;clear S6 S7 O7 hc7 hn7 hf7 hk7)))
       all_goals
        go_wp2
        have S9:=HS7.out.sent HG8.out HV8.out HO8.out
        have O9:=HO7.out.sent HS7.out HG8.out (u A8 (k+1) k8)
        have K9:KeepOn K' wr (w8.setCell ⟨gt,1,E⟩ (u A8 (k+1) k8)):=(show KeepOn K' wr w7 from HKN.out).trans ((show KeepOn K' w7 (w7.alloc (F #[C D (n0:Int)] 3)) from fun q hq=>Below.heap_alloc w7 _ q (HKS7.out.frm.kl q hq).1).trans (HS7.out.keptS HG8.out 1 _))
        have B9:KB X w (w8.setCell ⟨gt,1,E⟩ (u A8 (k+1) k8)):=(((HBJ.out.drew.kb HKB.out (by
         rintro q (rfl | hq)
         · exact .inl xg
         · exact HMB'.out q hq)).alloc _).grow HG8.out fun q hq => .inr (HS7.out.ownS.lt q hq).1).setAt (.inr hgtw) 1 _
        have HK9:=Hd K9
        have HB9:=Hd B9
        have M9:∀ m,nm2=some m→X m∨w.heap.size≤m:=fun m hm=>(HF7.out m hm).elim (HMB'.out m) (fun q => .inr (O hwwr q))
        have HM9:=Hd M9
        have sz9:w3.heap.size≤(w8.setCell ⟨gt,1,E⟩ (u A8 (k+1) k8)).heap.size:=by
         rw [S]
         have h1:=HG8.out.size
         have h2:=HKB.out.size
         have h3:wr.drew.heap.size=wr.heap.size:=rfl
         rw [T] at h1
         omega
        have hs9:=B9.size
        clear K9 B9 M9 mc mf ml gt7 gt1
        generalize w8.setCell ⟨gt,1,E⟩ (u A8 (k+1) k8)=w9 at *
        have o7:=S9.own7
        rw [HN0.out] at o7
        obtain ⟨A7,k7,rfl,-,-⟩:=zac o7
        have y7:=S9.cp.cells.2.2.2.2.2.2.2.1
        obtain ⟨y0,y1,y2,y3,y4⟩:=O9.cells
        have lgb9:=O9.lt
        have lg9:=S9.cp.lt
        have HOW9:=Hd (show ((w9.alloc (F #[C D (ix:Int),C D (t:Int),C D p.first,C D p.max,u AG d.2.length cG] 97)).drew).ownsRow base 97 5 (u A7 n0 k7) n0 (ys'.flatMap zd7) from o7.drew.alloc _)
        have HSR9:=Hd (show Src ((w9.alloc (F #[C D (ix:Int),C D (t:Int),C D p.first,C D p.max,u AG d.2.length cG] 97)).drew) 5 (some ⟨w9.heap.size,0,E⟩) 1 [C D (ix:Int),C D (t:Int),C D p.first,C D p.max,u AG d.2.length cG] from za5 w9.drew _ 97 5 1 rfl)
        have HS9:=Hd ((S9.below (zaa w9 (F #[C D (ix:Int),C D (t:Int),C D p.first,C D p.max,u AG d.2.length cG] 97))).drew)
        have HO9:=Hd ((O9.below (zaa w9 (F #[C D (ix:Int),C D (t:Int),C D p.first,C D p.max,u AG d.2.length cG] 97))).drew)
        have HKL9:=Hd (show ∀ q,K' q→q<w9.heap.size from fun q hq=>(S9.frm.kl q hq).1)
        have hb9:base≤w9.heap.size:=by omega
        clear S9 O9 o7
        go_region_law ((refine zai (o:=⟨some 83,_,_,_,_,_⟩) (w:=(w9.alloc (F #[C D (ix:Int),C D (t:Int),C D p.first,C D p.max,u AG d.2.length cG] 97)).drew) _ _ 35 rfl rfl Tryz.underlying35 HTP.out.1 HTP.out.2.1 HTP.out.2.2.1 HTP.out.2.2.2 rfl (by decide) rfl HOW9.out rfl HSR9.out (by simp [Value.oneCell']) (by unfold maxLen;omega) (by omega) (by simp;omega) ?_;intro v10 w10 hown10 hg10 hv10;obtain ⟨mc2,mf2,ml2⟩:=HS9.out.midP hg10;obtain ⟨A10,k10,hv10e,-,-⟩:=zac hown10;have HO10:=Hd hown10;have HG10:=Hd hg10;have HV10:=Hd hv10;clear hown10 hg10 hv10;subst hv10e))
        all_goals
         go_wp2
         go_roundw
         case rel =>
          have hsl:a.sigs.length=d.2.length:=by rw [HA2.out];exact Q ..
          have hrow:zd7 (a,AG,cG)=[C D (ix:Int),C D (t:Int),C D p.first,C D p.max,u AG d.2.length cG]:=by
           unfold zd7
           rw [hsl,HA2.out]
          have hgs:(((d.2.map (zch x.r)).take d.2.length).flatMap fun n=>[C D n])=a.sigs.flatMap fun n=>[C D n]:=by
           rw [HA2.out,List.take_of_length_le (by simp)]
          have P:=HS9.out.published (a:=a) (A:=AG) (q:=cG) HO9.out (by rw [hsl]) hsl.symm (by rw [hsl];exact ⟨hcG,hmG⟩) hgs HG10.out HV10.out (by rw [hrow,HN0.out];exact HO10.out)
          refine ⟨k+1,nm2,u A10 (n0+1) k10,ys'++[(a,AG,cG)],(fun q=>K' q∨(u AG d.2.length cG).ownBlock=some q),u A8 (k+1) k8,_,by omega,by go_num,by rw [HAK.out,← List.append_assoc];exact P,fun q hq => .inl (HKs.out q hq),?_,?_,?_,HM9.out,?_,?_⟩
          · refine HKW6.out.trans ((KeepOn.mono (HKJ2.out.trans HK9.out) HKs.out).trans (KeepOn.mono ?_ HKs.out))
            exact (show KeepOn K' w9 (w9.alloc (F #[C D (ix:Int),C D (t:Int),C D p.first,C D p.max,u AG d.2.length cG] 97)) from fun q hq=>Below.heap_alloc w9 _ q (HKL9.out q hq)).trans (HS9.out.keptP HG10.out 7 _)
          · exact ((HB9.out.alloc _).drew.grow HG10.out HVB'.out).setAt (.inl xg) 7 _
          · have h1:=HG10.out.size
            have h2:(w9.alloc (F #[C D (ix:Int),C D (t:Int),C D p.first,C D p.max,u AG d.2.length cG] 97)).drew.heap.size=w9.heap.size+1:=by simp
            rw [S]
            omega
          · intro q hq
            rcases HV10.out with e | e
            · exact HVB'.out q (e.symm.trans hq)
            · have hz:=Option.some.inj (e.symm.trans hq)
              have h2:(w9.alloc (F #[C D (ix:Int),C D (t:Int),C D p.first,C D p.max,u AG d.2.length cG] 97)).drew.heap.size=w9.heap.size+1:=by simp
              right
              omega
          · rintro q (hq | hq)
            · exact HK0'.out q hq
            · exact .inr (HOJ.out.own.lt q hq).1
         case measure=>simp [intOf];omega
  · obtain rfl:k=x.pubs.length:=by omega
    have hall:(zbR ix x).take x.pubs.length=zbR ix x:=List.take_of_length_le (by rw [zbR,Q];exact I _)
    rw [hall] at hS
    obtain ⟨AS,cS,rfl,-,-⟩:=zac hS.ownS
    obtain ⟨t0,t1,t2⟩:=hS.cells
    have lgt:=hS.lt
    have rl:w.heap.size<wr.heap.size:=by omega
    have r0:wr.cell? ⟨w.heap.size,0,E⟩=some (u E 0 0):=by simp [U,hS.res]
    have r1:wr.cell? ⟨w.heap.size,1,E⟩=some (u E 0 0):=by simp [U,hS.res]
    have r2:wr.cell? ⟨w.heap.size,2,E⟩=some (u E 0 0):=by simp [U,hS.res]
    have f0:=zcJ hS.res 0
    have f1:=zcJ hS.res 1
    have f2:=zcJ hS.res 2
    have HSE:=Hd hS
    have HKp:=Hd hKp
    have HBE:=Hd hbel
    have HKS:=Hd hKs
    have HMM:=Hd hmB
    have HVV:=Hd hvB
    have HK00:=Hd hK0
    clear hS hKp hbel hKs hmB hvB hK0 hwb hall
    go_wp2
    refine bodyPost_ret (v := .agg #[u A2 x.r.outputs.length c2,u AS x.pubs.length cS,u E 0 0]) (by simp [results,Tryz.results36,go_sem,r0,r1,r2]) rfl ?_
    obtain ⟨P,hP⟩:=HSE.out.pre (W':=((wr.setCell ⟨w.heap.size,0,E⟩ (u A2 x.r.outputs.length c2)).setCell ⟨w.heap.size,1,E⟩ (u AS x.pubs.length cS)).setCell ⟨w.heap.size,2,E⟩ (u E 0 0))
     (fun q hq=>(heap_setCell_other _ ⟨w.heap.size,2,E⟩ q _ hq).trans ((heap_setCell_other _ ⟨w.heap.size,1,E⟩ q _ hq).trans (heap_setCell_other _ ⟨w.heap.size,0,E⟩ q _ hq))) (by simp only [S])
    refine ⟨A2,c2,u AS x.pubs.length cS,nm',v7',ys',K',rfl,hc2,hm2,rfl,P,?_,fun q hq=>HKS.out q (HKK.out q hq),?_,?_,HMM.out,HVV.out,HK00.out⟩
    · exact (HO.out.mono StrK.mono (fun _ q=>q) HKp.out).mono StrK.mono HKS.out (hP.mono HKS.out)
    · exact (show KeepOn K w w3 from fun q hq=>HW3.out.block q (H.out.frm.kl q hq).1).trans ((KeepOn.mono HKp.out HKK.out).trans (hP.mono fun q hq=>HKS.out q (HKK.out q hq)))
    · exact ((HBE.out.setAt (.inr (I _)) 0 _).setAt (.inr (I _)) 1 _).setAt (.inr (I _)) 2 _
end Go.Proofs.YtjkimieapfbhbaaGreatDoor
