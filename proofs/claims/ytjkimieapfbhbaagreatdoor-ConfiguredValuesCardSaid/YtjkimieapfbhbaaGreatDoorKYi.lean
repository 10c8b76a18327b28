/-
 A statement is put at the end of a block's statements.
-/
import Derived.Test.YtjkimieapfbhbaaGreatDoorKOwn
import Derived.OrdersHeld
import Derived.Deep.RegionHeld3
set_option maxRecDepth 100000
set_option maxHeartbeats 8000000
open Option renaming none → m
open Go.Value renaming slice → r, int → t, bool → D, string → F
open Go.IntKind renaming i64 → y
open Go.Obj renaming cells → E
open Nat renaming le_refl → G, lt_of_lt_of_le → I, le_trans → J, add_zero → L
namespace Go.Proofs.YtjkimieapfbhbaaGreatDoor
open Go.RowKit
theorem zjb {w w1:World} {size n B:Nat} {A:Option Addr} {cs:List Value} (h:Src w size A n cs) (hA:∀ ad,A=some ad→ad.block<B) (hb:Below B w w1):Src w1 size A n cs:=by
 refine ⟨h.1,fun hn => ?_⟩
 obtain ⟨ad,e,hc⟩:=h.2 hn;exact ⟨ad,e,fun j u hu=>(hb.cell (p:=ad.add j) (by have:=hA ad e;unfold Addr.add;split <;> simpa using this)).trans (hc j u hu)⟩
def boxC (W v:Value):List Value:=[t y 0,W,D true,v]
def zfr (d:Nat) (X:Nat→Prop) (base g:Nat) (W v:Value) (its:List (List Value)) (w:World) (e:Ending) (w':World):Prop:=
 e = .returned (.tuple #[])∧∃ v' cs,Row w' g 211 (boxC W v')∧Grows d X base w' v' (its++[cs])∧KB (fun b=>X b∨v.ownBlock=some b) w w'∧(∀ b,v'.ownBlock=some b→v.ownBlock=some b∨w.heap.size≤b)
theorem zlr (w:World) (g b i j:Nat) (u v:Value) (h:g≠b):(w.setCell ⟨g,i,m⟩ u).setCell ⟨b,j,m⟩ v=(w.setCell ⟨b,j,m⟩ v).setCell ⟨g,i,m⟩ u:=by
 unfold World.setCell
 congr 1
 apply Array.ext_getElem?
 intro k;simp only [Array.getElem?_modify]
 by_cases h1:b=k
 · have h2:¬ g=k:=fun q=>h (q.trans h1.symm)
   simp only [if_pos h1,if_neg h2]
 · simp only [if_neg h1]
theorem zb3 (g b i:Nat) (u:Value) (h:g≠b):∀ (l:List (Nat × Value)) (w:World),sets b (w.setCell ⟨g,i,m⟩ u) l=(sets b w l).setCell ⟨g,i,m⟩ u
 | [],_=>rfl
 | p::l,w=>by
   show sets b ((w.setCell ⟨g,i,m⟩ u).setCell ⟨b,p.1,m⟩ p.2) l=_
   rw [zlr w g b i p.1 u p.2 h]
   exact zb3 g b i u h l _
def zcn (w2:World) (b2 n:Nat) (W1:Value):World:=sets b2 w2 [(n*4,t y 0),(n*4+1,W1),(n*4+2,D false),(n*4+3,r m 0 0)]
theorem zgI {d:Nat} {X:Nat→Prop} {base b2 c2:Nat} {v:Value} {its:List (List Value)} {A1:Option Addr} {c1:Nat} {ws:List (ByteArray × Bool)} {w W1 w2:World} (h:Grows (d+1) X base w v its) (hW:Below w.heap.size w W1)
 (ho1:W1.ownsRow w.heap.size 217 2 (r A1 ws.length c1) ws.length (ws.flatMap wdC)) (hl:1≤ws.length∧ws.length≤60) (hw:∀ x∈ws,Wt x.1) (hg2:W1.grownBy w2 v.ownBlock)
 (hv2:(r (some ⟨b2,0,m⟩) (its.length+1) c2).ownBlock=v.ownBlock∨(r (some ⟨b2,0,m⟩) (its.length+1) c2).ownBlock=some W1.heap.size)
 (hown2:w2.ownsRow base 211 4 (r (some ⟨b2,0,m⟩) (its.length+1) c2) (its.length+1) (its.flatten++[t y 0,r m 0 0,D false,r m 0 0])) :
 Grows (d+1) X base (zcn w2 b2 its.length (r A1 ws.length c1)) (r (some ⟨b2,0,m⟩) (its.length+1) c2) (its++[[t y 0,r A1 ws.length c1,D false,r m 0 0]]) ∧
  W1.grownBy (zcn w2 b2 its.length (r A1 ws.length c1)) v.ownBlock:=by
 have hs:=ze8 (g:=b2) [(its.length*4,t y 0),(its.length*4+1,r A1 ws.length c1),(its.length*4+2,D false),(its.length*4+3,r m 0 0)] w2
 have hgr:W1.grownBy (zcn w2 b2 its.length (r A1 ws.length c1)) v.ownBlock:=by
  refine ⟨hs.os.trans hg2.os,hs.tape.trans hg2.tape,hs.output.trans hg2.output,J hg2.size hs.size,fun b hb hn => ?_⟩
  have hne:b≠b2:=zcz hv2 rfl (fun q=>hn q.symm) hb;exact (hs.block b (I hb hg2.size) (fun q=>by cases q;exact hne rfl)).trans (hg2.block b hb hn)
 refine ⟨?_,hgr⟩
 have hown3:=zfL [(its.length*4,t y 0),(its.length*4+1,r A1 ws.length c1),(its.length*4+2,D false),(its.length*4+3,r m 0 0)] hown2;rw [zhQ _ _ (zbT h.each)] at hown3;refine (h.below hW (G _)).more (W:=W1) (G _) (fun _ _=>rfl) hgr hv2 (by simpa [zcn] using hown3) ?_
 intro c hc;simp only [List.mem_singleton] at hc;subst hc;refine zdw ho1 rfl hw hl fun b h1 h2=>⟨J h.lo h1,h2,fun q => ?_,fun q => ?_⟩
 · have:=(h.own.lt b q).2
   omega
 · have:=h.xl b q
   omega
theorem ziv {d:Nat} {X:Nat→Prop} {base g b2 c2:Nat} {W v:Value} {its:List (List Value)} {A1:Option Addr} {c1:Nat} {ws:List (ByteArray × Bool)} {w W1 w2:World} (hX:X g) (R:Row w g 211 (boxC W v)) (h:Grows (d+1) X base w v its) (hW:Below w.heap.size w W1)
 (ho1:W1.ownsRow w.heap.size 217 2 (r A1 ws.length c1) ws.length (ws.flatMap wdC)) (hl:1≤ws.length∧ws.length≤60) (hw:∀ x∈ws,Wt x.1) (hg2:W1.grownBy w2 v.ownBlock)
 (hv2:(r (some ⟨b2,0,m⟩) (its.length+1) c2).ownBlock=v.ownBlock∨(r (some ⟨b2,0,m⟩) (its.length+1) c2).ownBlock=some W1.heap.size)
 (hown2:w2.ownsRow base 211 4 (r (some ⟨b2,0,m⟩) (its.length+1) c2) (its.length+1) (its.flatten++[t y 0,r m 0 0,D false,r m 0 0])) :
 zfr (d+1) X base g W v its w (.returned (.tuple #[])) ((zcn w2 b2 its.length (r A1 ws.length c1)).setCell ⟨g,3,m⟩ (r (some ⟨b2,0,m⟩) (its.length+1) c2)):=by
 obtain ⟨h1,h2⟩:=zgI h hW ho1 hl hw hg2 hv2 hown2;have hs:=hW.size;have hgl:=R.lt;have hgv:v.ownBlock≠some g:=fun q=>h.nx g q hX
 have hrow:Row (zcn w2 b2 its.length (r A1 ws.length c1)) g 211 (boxC W v):=((h2.block g (by omega) (fun q=>hgv q.symm)).trans (hW.block g hgl)).trans R;refine ⟨rfl,_,_,hrow.set (i:=3) (v := r (some ⟨b2,0,m⟩) (its.length+1) c2),h1.keep (by simp) fun b _ hb=>heap_setCell_other _ ⟨g,3,m⟩ b _ (fun q=>hb (by have q':b=g:=q;rw [q'];exact hX)),?_,fun b q => ?_⟩
 refine ((KB.of_below hW).grow h2 fun b q => .inl (.inr q)).set 3 _ (.inl hX)
 rcases hv2 with z | z
 · exact .inl (z.symm.trans q)
 · rw [z] at q
   cases q
   exact .inr hs
theorem zjq (d:Nat) (X S:Nat→Prop) (base g:Nat) (W v:Value) (its:List (List Value)) (A:Option Addr) (c:Nat) (xs:List ByteArray) (w:World) (hX:X g) (R:Row w g 211 (boxC W v)) (h:Grows (d+1) X base w v its) (hn:its.length≤200)
 (hw:Rw WtC 1 w S A xs.length xs) (hl:1≤xs.length∧xs.length≤40) (hS:∀ b,S b→b<w.heap.size) :
 Calls Tryz.prog 153 #[r A xs.length c,.pointer (some ⟨g,0,m⟩)] w (zfr (d+1) X base g W v its w):=by
 obtain ⟨i0,hi,hz0,hz1,hz2⟩:=info_parts zcK;have HTI:=Hd (And.intro hi (And.intro hz0 (And.intro hz1 hz2)));clear hi hz0 hz1 hz2;have y3:=Row.cell (k:=3) (v:=v) R rfl;have f3:=Row.free R 3;have gl:=R.lt;have HR:=Hd R;have HG:=Hd h
 have HST:=Hd (show ∀ W',Below w.heap.size w W'→Calls Tryz.prog 118 #[r A xs.length c] W' (zd1 W'.heap.size (0+xs.length) (0+xs.length) W') from fun W' hW =>
  zfY S A c xs W' (hw.mono WtC.mono (fun _ q=>q) (zbc hW hS)) hl.2 (fun b hb=>I (hS b hb) hW.size))
 obtain ⟨AV,cV,rfl,-,-⟩:=zac h.own;have hlo:=h.lo;have hng:(r AV its.length cV).ownBlock≠some g:=fun q=>h.nx g q hX
 have HNG:=Hd hng;have HFL:=Hd (zbT h.each);have hi1:(its.length:Int)<(its.length:Int)+1:=by omega
 have hi0:(0:Int)≤(its.length:Int):=by omega
 have HZ:=Hd (zaa w (E #[t y 0,r m 0 0,D false,r m 0 0] 211));clear R h hw hng;go_enter Tryz.func153,Tryz.ntmps153
 go_region_law (first
  | ((refine zai (o:=⟨some 9,_,_,_,_,_⟩) (w:=w1.alloc (E #[t y 0,r m 0 0,D false,r m 0 0] 211)) _ _ 173 rfl rfl Tryz.underlying173 HTI.out.1 HTI.out.2.1 HTI.out.2.2.1 HTI.out.2.2.2 rfl (by decide) rfl HO1.out rfl HSR1.out (by simp [Value.oneCell']) (by unfold maxLen;omega) (by omega) (by first | omega | (simp;omega)) ?_;intro v2 w2 hown2 hg2 hv2;obtain ⟨b2,c2,hv2e,hb2,hb2l⟩:=hown2.form (by omega);subst hv2e;have HO2:=Hd hown2;have HG2:=Hd hg2;have HV2:=Hd hv2;
      have gx:=(World.cell?_of_block (a:=⟨g,3,m⟩) (hg2.block g gl1 (fun q=>HNG.out q.symm))).trans y31;have gf:=(World.frozen?_of_block (a:=⟨g,3,m⟩) (hg2.block g gl1 (fun q=>HNG.out q.symm))).trans f31;
      have e0:=za4 HO2.out HFL.out 0 (u := t y 0) rfl;have e1:=za4 HO2.out HFL.out 1 (u := r m 0 0) rfl;have e2:=za4 HO2.out HFL.out 2 (u := D false) rfl;have e3:=za4 HO2.out HFL.out 3 (u := r m 0 0) rfl;rw [L] at e0;
      have ef0:=hown2.frozenAt (its.length*4);have ef1:=hown2.frozenAt (its.length*4+1);have ef2:=hown2.frozenAt (its.length*4+2);have ef3:=hown2.frozenAt (its.length*4+3);
      have hgb:g≠b2:=zcz HV2.out rfl HNG.out gl1;have hbg:=hgb.symm;
      clear hown2 hg2 hv2))
  | ((refine zai (o:=⟨some 9,_,_,_,_,_⟩) (w:=w1) _ _ 173 rfl rfl Tryz.underlying173 HTI.out.1 HTI.out.2.1 HTI.out.2.2.1 HTI.out.2.2.2 rfl (by decide) rfl HO1.out rfl HSR1.out (by simp [Value.oneCell']) (by unfold maxLen;omega) (by omega) (by first | omega | (simp;omega)) ?_;intro v2 w2 hown2 hg2 hv2;obtain ⟨b2,c2,hv2e,hb2,hb2l⟩:=hown2.form (by omega);subst hv2e;have HO2:=Hd hown2;have HG2:=Hd hg2;have HV2:=Hd hv2;
      have gx:=(World.cell?_of_block (a:=⟨g,3,m⟩) (hg2.block g gl1 (fun q=>HNG.out q.symm))).trans y31;have gf:=(World.frozen?_of_block (a:=⟨g,3,m⟩) (hg2.block g gl1 (fun q=>HNG.out q.symm))).trans f31;
      have e0:=za4 HO2.out HFL.out 0 (u := t y 0) rfl;have e1:=za4 HO2.out HFL.out 1 (u := r m 0 0) rfl;have e2:=za4 HO2.out HFL.out 2 (u := D false) rfl;have e3:=za4 HO2.out HFL.out 3 (u := r m 0 0) rfl;rw [L] at e0;
      have ef0:=hown2.frozenAt (its.length*4);have ef1:=hown2.frozenAt (its.length*4+1);have ef2:=hown2.frozenAt (its.length*4+2);have ef3:=hown2.frozenAt (its.length*4+3);
      have hgb:g≠b2:=zcz HV2.out rfl HNG.out gl1;have hbg:=hgb.symm;
      clear hown2 hg2 hv2))
  | ((go_simp;go_at_call 118;refine (HST.out _ ((Below.refl _ w).drew)).mono ?_;rintro e w1 ⟨A1,c1,ws,rfl,hlen,hcc,ho1,hw1,hb1⟩;have HB1:=Hd (show Below w.heap.size w (w1.alloc (E #[t y 0,r m 0 0,D false,r m 0 0] 211)) from ((Below.refl _ w).drew.trans hb1).alloc hb1.size _);
      have y31:=(HB1.out.cell (p:=⟨g,3,m⟩) gl).trans y3;have f31:=(HB1.out.frozen (p:=⟨g,3,m⟩) gl).trans f3;have yw:=(hb1.cell (p:=⟨g,3,m⟩) (by first | exact gl | (simp;omega))).trans (y3);  have gl1:=I gl HB1.out.size;have hs1:=HB1.out.size;have hs2:=hb1.size;have HW1:=Hd (show (w1.alloc (E #[t y 0,r m 0 0,D false,r m 0 0] 211)).ownsRow w.heap.size 217 2 (r A1 ws.length c1) ws.length (ws.flatMap wdC) from (zao ho1 (G _)).alloc _);have HWW:=Hd hw1;have HLN:=Hd hlen;have HO1:=Hd (zab HG.out.own HB1.out (G _));have HSR1:=Hd (za5 w1 [t y 0,r m 0 0,D false,r m 0 0] 211 4 1 rfl);clear ho1 hw1 hb1 hlen))
  | ((go_simp;go_at_call 118;refine (HST.out _ (HZ.out.drew)).mono ?_;rintro e w1 ⟨A1,c1,ws,rfl,hlen,hcc,ho1,hw1,hb1⟩;have HB1:=Hd (show Below w.heap.size w (w1) from HZ.out.drew.trans (hb1.mono (by simp)));
      have y31:=(HB1.out.cell (p:=⟨g,3,m⟩) gl).trans y3;have f31:=(HB1.out.frozen (p:=⟨g,3,m⟩) gl).trans f3;have yw:=(hb1.cell (p:=⟨g,3,m⟩) (by first | exact gl | (simp;omega))).trans ((HZ.out.cell (p:=⟨g,3,m⟩) gl).trans y3);  have gl1:=I gl HB1.out.size;have hs1:=HB1.out.size;have hs2:=hb1.size;have HW1:=Hd (show (w1).ownsRow w.heap.size 217 2 (r A1 ws.length c1) ws.length (ws.flatMap wdC) from zao ho1 (by simp));have HWW:=Hd hw1;have HLN:=Hd hlen;have HO1:=Hd (zab HG.out.own HB1.out (G _));have HSR1:=Hd (zjb (za5 w [t y 0,r m 0 0,D false,r m 0 0] 211 4 1 rfl) (B:=w.heap.size+1) (fun ad q=>by cases q;simp) ((Below.refl _ _).drew.trans (hb1.mono (by simp))));clear ho1 hw1 hb1 hlen)))
 all_goals
  have HFIN:=ziv hX HR.out HG.out HB1.out HW1.out (by have:=HLN.out;omega) HWW.out HG2.out HV2.out HO2.out;have HFIN2:=HFIN;unfold zcn at HFIN2;rw [← zb3 g b2 3 _ hgb _ _] at HFIN2;simp only [zcn,Go.Proofs.YtjkimieapfbhbaaGreatDoor.sets,List.foldl_cons,List.foldl_nil] at HFIN HFIN2;go_end0
  first
   | (with_reducible exact HFIN)
   | (with_reducible exact HFIN2)
theorem zj3 (w:World) (xs:List ByteArray) (h:∀ s∈xs,Wt s):Rw WtC 1 (w.alloc (E (xs.map F).toArray 9)) (fun b=>b=w.heap.size) (some ⟨w.heap.size,0,m⟩) xs.length xs:=by
 refine ⟨rfl,fun _=>⟨_,0,rfl,rfl,fun k x hx=>⟨[F x],rfl,⟨rfl,h x (List.mem_of_getElem? hx)⟩,fun j u hu => ?_⟩⟩⟩
 have hj:j=0:=by have:=(List.getElem?_eq_some_iff.1 hu).1;simp at this;omega
 subst hj;have h2:=cell_of_row (w.alloc (E (xs.map F).toArray 9)) w.heap.size (0+k*1+0) _ 9 (0,0) (heap_alloc_new w _);rw [h2];simp at hu
 simp [hx,hu]
theorem zmw (xs:List ByteArray) (n:Nat) (cells:Array Value) (w:World) (hc:cells=(xs.map F).toArray) (hn:xs.length=n) (hl:n≤40) (hw:∀ s∈xs,Wt s) :
 Calls Tryz.prog 118 #[r (some ⟨w.heap.size,0,m⟩) n n] (w.alloc (E cells 9)) (zd1 (w.heap.size+1) n n (w.alloc (E cells 9))):=by
 subst hc;subst hn;have:=zfY (fun b=>b=w.heap.size) (some ⟨w.heap.size,0,m⟩) xs.length xs (w.alloc (E (xs.map F).toArray 9)) (zj3 w xs hw) hl (fun b hb=>by subst hb;simp);simpa using this
theorem addL (d:Nat) (X:Nat→Prop) (base g:Nat) (W v:Value) (its:List (List Value)) (xs:List ByteArray) (n:Nat) (cells:Array Value) (w:World) (hX:X g) (R:Row w g 211 (boxC W v)) (h:Grows (d+1) X base w v its) (hk:its.length≤200)
 (hc:cells=(xs.map F).toArray) (hn:xs.length=n) (hl:1≤n∧n≤40) (hw:∀ s∈xs,Wt s) :
 Calls Tryz.prog 153 #[r (some ⟨w.heap.size,0,m⟩) n n,.pointer (some ⟨g,0,m⟩)] (w.alloc (E cells 9)) (zfr (d+1) X base g W v its (w.alloc (E cells 9))):=by
 subst hc;subst hn;exact zjq d X (fun b=>b=w.heap.size) base g W v its (some ⟨w.heap.size,0,m⟩) xs.length xs _ hX (R.below (zaa _ _) R.lt) (h.below (zaa _ _) (G _)) hk (zj3 w xs hw) hl (fun b hb=>by subst hb;simp)
section
variable {P : Program} {ops : Array Oper} {Q : Exit → Act → World → Prop} {md : Region.Mode} {S C U : World → Prop} {d i : Nat}
theorem zir {listed:Array Bool} {k:Nat} (h:listed.getD k true=false):listed.getD k false=false:=by
 rw [Array.getD_eq_getD_getElem?] at *
 cases q:listed[k]? with
 | none=>rw [q] at h;cases h
 | some b=>rw [q] at h;exact h
def zlY (md:Region.Mode) (ops:Array Oper) (d i:Nat):Bool:=((ops[d]?).map fun o=>o.after.any fun e=>Region.binds md e && e.on == i).getD false
def TimS (S C:World→Prop) (d:Nat) (listed:Array Bool) (w:World):Prop:=S w∧(listed.getD d false=false→C w)
def zb4 (P:Program) (md:Region.Mode) (ops:Array Oper) (Q:Exit→Act→World→Prop) (S C:World→Prop) (d:Nat):Nat→Array Bool→Act→World→Prop
 | 0,listed,a,w=>Region.ready md ops listed=[]∧Q .normal a w
 | f+1,listed,a,w =>
   (Region.ready md ops listed=[]→Q .normal a w) ∧
    ∀ k∈Region.ready md ops listed,wpOp P ops Q k (fun a' w'=>TimS S C d (listed.setIfInBounds k true) w'∧zb4 P md ops Q S C d f (listed.setIfInBounds k true) a' w') a w
theorem zd0:∀ (f:Nat) (listed:Array Bool) (a:Act) (w:World),zb4 P md ops Q S C d f listed a w→wpAny P md ops Q f listed a w
 | 0,_,_,_,h=>h
 | f+1,_,_,_,h=>⟨h.1,fun k hk=>wpOp_mono (fun a' w' h'=>zd0 f _ a' w' h'.2) (h.2 k hk)⟩
theorem TimS.other {listed:Array Bool} {w:World} (hid:i≠d) (h:TimS S C d listed w):TimS S C d (listed.setIfInBounds i true) w:=
 ⟨h.1,fun q=>h.2 (by rw [getD_set_ne false hid] at q;exact q)⟩
theorem TimS.back {listed:Array Bool} {w:World} {j:Nat} (hid:i≠d) (hij:i≠j) (h:TimS S C d ((listed.setIfInBounds i true).setIfInBounds j true) w):TimS S C d (listed.setIfInBounds j true) w:=by
 refine ⟨h.1,fun q=>h.2 ?_⟩
 rw [← Array.setIfInBounds_comm _ _ hij.symm,getD_set_ne false hid];exact q
theorem zhf {oi:Oper} {v:Value} (OK:Array Bool→Prop) (hi:ops[i]? = some oi) (hsel:∀ (j:Nat) (o:Oper) cs b,ops[j]? = some o→o.op ≠ .select cs b)
 (hQ:∀ c a w,Q (.panic c) (a.put oi.dst v) w→Q (.panic c) a w) (hid:i≠d)
 (hOK:∀ listed j,OK listed→i∈Region.ready md ops listed→j∈Region.ready md ops listed→j≠i→OK (listed.setIfInBounds j true)) (hU:∀ listed w,OK listed→TimS S C d listed w→U w) :
 ∀ (f:Nat) (listed:Array Bool) (a:Act) (w:World),OK listed →
  (∀ j oj,ops[j]? = some oj→j≠i→listed.getD j true=false→(∀ e∈oj.after,Region.binds md e=true→e.on≠i)→oi.apart ops oj=true) →
  i∈Region.ready md ops listed→YieldsIf P ops U oi v a→TimS S C d listed w →
  zb4 P md ops Q S C d f (listed.setIfInBounds i true) (a.put oi.dst v) w→zb4 P md ops Q S C d (f+1) listed a w:=by
 intro f
 induction f with
 | zero =>
   intro listed a w ok _ hr hy hT H
   refine ⟨fun h=>absurd hr (by rw [h];simp),fun j hj => ?_⟩
   by_cases hji:j=i
   · subst hji
     exact hy.wpOp hi (hU _ _ ok hT) ⟨hT.other hid,H⟩
   · exact absurd (ready_mono hj hji) (by rw [H.1];simp)
 | succ f ih =>
   intro listed a w ok hfree hr hy hT H
   refine ⟨fun h=>absurd hr (by rw [h];simp),fun j hj => ?_⟩
   by_cases hji:j=i
   · subst hji
     exact hy.wpOp hi (hU _ _ ok hT) ⟨hT.other hid,H⟩
   · obtain ⟨hun,oj,hoj,hall⟩:=mem_ready.1 hj
     have hno:∀ e∈oj.after,Region.binds md e=true→e.on≠i:=fun e he hb q=>by
      have h1:=hall e he hb
      rw [q,zir (mem_ready.1 hr).1] at h1
      cases h1
     refine wpOp_mono (fun a' w' h3 => ?_) (wpOp_putIf hoj (hfree j oj hoj hji hun hno) (fun cs b=>hsel i oi cs b hi) (fun cs b=>hsel j oj cs b hoj) hQ hy (H.2 j (ready_mono hj hji)))
     have hT':TimS S C d (listed.setIfInBounds j true) w':=h3.2.1.back hid (fun q=>hji q.symm)
     refine ⟨hT',ih _ a' w' (hOK _ _ ok hr hj hji) (fun k ok' hk hki hunk hnok=>hfree k ok' hk hki ?_ hnok) (ready_mono hr fun q=>hji q.symm) h3.1 hT' ?_⟩
     · by_cases hjk:j=k
       · subst hjk;exact hun
       · rwa [getD_set_ne true hjk] at hunk
     · rw [Array.setIfInBounds_comm _ _ hji]
       exact h3.2.2
section
variable {l : List Oper} {oi : Oper} {v : Value} {f : Nat} {listed : Array Bool} {a : Act} {w : World}
theorem zip (hi:l[i]? = some oi) (hs:Region.noSelect l.toArray=true) (hf:Region.free md l.toArray listed i=true) (hr:(Region.ready md l.toArray listed).contains i=true) (hid:(i == d)=false)
 (hQ:∀ c a w,Q (.panic c) (a.put oi.dst v) w→Q (.panic c) a w) (hS:S w) (hC:listed.getD d false=false→C w) (hy:YieldsIf P l.toArray S oi v a)
 (h:zb4 P md l.toArray Q S C d f (listed.setIfInBounds i true) (a.put oi.dst v) w):zb4 P md l.toArray Q S C d (f+1) listed a w:=
 zhf (fun _=>True) (by simpa using hi) (Region.noSelect_spec hs) hQ (by simpa using hid) (fun _ _ _ _ _ _=>True.intro) (fun _ _ _ h=>h.1) f listed a w True.intro (Region.free_spec (by simpa using hi) hf) (by simpa using hr) hy ⟨hS,hC⟩ h
theorem zbO (hi:l[i]? = some oi) (hs:Region.noSelect l.toArray=true) (hf:Region.free md l.toArray listed i=true) (hr:(Region.ready md l.toArray listed).contains i=true) (hid:(i == d)=false)
 (hw:zlY md l.toArray d i=true) (hl:listed.getD d false=false) (hQ:∀ c a w,Q (.panic c) (a.put oi.dst v) w→Q (.panic c) a w) (hS:S w) (hC:C w) (hy:YieldsIf P l.toArray C oi v a)
 (h:zb4 P md l.toArray Q S C d f (listed.setIfInBounds i true) (a.put oi.dst v) w):zb4 P md l.toArray Q S C d (f+1) listed a w:=by
 refine zhf (fun l=>l.getD d false=false) (by simpa using hi) (Region.noSelect_spec hs) hQ (by simpa using hid) (fun l j hl hir hjr hji => ?_) (fun l w hl h=>h.2 hl) f listed a w hl (Region.free_spec (by simpa using hi) hf) (by simpa using hr) hy ⟨hS,fun _=>hC⟩ h
 have hjd:j≠d:=by
  rintro rfl
  obtain ⟨_,o',ho',hall⟩:=mem_ready.1 hjr;unfold zlY at hw;rw [ho',Option.map_some,Option.getD_some] at hw;obtain ⟨e,he,hb⟩:=Array.any_eq_true'.1 hw;simp only [Bool.and_eq_true,beq_iff_eq] at hb;obtain ⟨hb,q⟩:=hb;have h1:=hall e he hb;rw [q,zir (mem_ready.1 hir).1] at h1
  cases h1
 rw [getD_set_ne false hjd];exact hl
theorem zaS (i:Nat) (v:Value) (hi:l[i]? = some oi) (hS:S w) (hC:listed.getD d false=false→C w) (hy:∀ w,S w→(execOp a.eval oi).run P w = .ok (.value v) w)
 (h:zb4 P md l.toArray Q S C d f (listed.setIfInBounds i true) (a.put oi.dst v) w) (hs:Region.noSelect l.toArray=true:=by kernel_rfl) (hf:Region.free md l.toArray listed i=true:=by kernel_rfl)
 (hr:(Region.ready md l.toArray listed).contains i=true:=by kernel_rfl) (hid:(i == d)=false:=by rfl) (hQ:∀ c a w,Q (.panic c) (a.put oi.dst v) w→Q (.panic c) a w:=by exact fun _ _ _ h=>h)
 (hw:Region.wanted oi (yielded l.toArray a.tmps)=true:=by rfl):zb4 P md l.toArray Q S C d (f+1) listed a w:=zip hi hs hf hr hid hQ hS hC (Or.inl ⟨hw,hy⟩) h
theorem zam (i:Nat) {v:Value} (hi:l[i]? = some oi) (hS:S w) (hC:listed.getD d false=false→C w)
 (h:zb4 P md l.toArray Q S C d f (listed.setIfInBounds i true) (a.put oi.dst v) w) (hs:Region.noSelect l.toArray=true:=by kernel_rfl) (hf:Region.free md l.toArray listed i=true:=by kernel_rfl)
 (hr:(Region.ready md l.toArray listed).contains i=true:=by kernel_rfl) (hid:(i == d)=false:=by rfl) (hQ:∀ c a w,Q (.panic c) (a.put oi.dst v) w→Q (.panic c) a w:=by exact fun _ _ _ h=>h)
 (hw:Region.wanted oi (yielded l.toArray a.tmps)=true:=by rfl) (hy:∀ w,S w→(execOp a.eval oi).run P w = .ok (.value v) w:=by intro wq hSw;go_simp <;> with_reducible rfl):zb4 P md l.toArray Q S C d (f+1) listed a w:=zip hi hs hf hr hid hQ hS hC (Or.inl ⟨hw,hy⟩) h
def AllReadyT (P:Program) (md:Region.Mode) (ops:Array Oper) (Q:Exit→Act→World→Prop) (S C:World→Prop) (d:Nat) (f:Nat) (listed:Array Bool) (a:Act) (w:World) (rs:List Nat):Prop:=
 ∀ k∈rs,wpOp P ops Q k (fun a' w'=>TimS S C d (listed.setIfInBounds k true) w'∧zb4 P md ops Q S C d f (listed.setIfInBounds k true) a' w') a w
theorem AllReadyT.nil:AllReadyT P md ops Q S C d f listed a w []:=fun _ h=>by cases h
theorem AllReadyT.cons {o:Oper} {rs:List Nat} (ho:l[i]? = some o)
 (h:∀ K:Act→World→Prop,Shut (∀ a w,S w→((listed.setIfInBounds i true).getD d false=false→C w)→(S w→((listed.setIfInBounds i true).getD d false=false→C w)→zb4 P md l.toArray Q S C d f (listed.setIfInBounds i true) a w)→K a w)→if Region.wanted o (yielded l.toArray a.tmps)=true then Oper.wp P o a w K Q else K (a.put o.dst undef) w)
 (hs:AllReadyT P md l.toArray Q S C d f listed a w rs):AllReadyT P md l.toArray Q S C d f listed a w (i::rs):=fun j hj=>by
 rcases List.mem_cons.1 hj with rfl | hj
 · exact wpOp_step (by simpa using ho) fun K hK=>h K fun a w h1 h2 h3=>hK a w ⟨⟨h1,h2⟩,h3 h1 h2⟩
 · exact hs j hj
theorem zad {rs:List Nat} (hr:Region.ready md ops listed=rs) (hne:rs≠[]) (h:AllReadyT P md ops Q S C d f listed a w rs):zb4 P md ops Q S C d (f+1) listed a w:=
 ⟨fun h0=>absurd (hr ▸ h0) hne,hr ▸ h⟩
theorem zaR (hr:Region.ready md ops listed=[]) (h:Q .normal a w):∀ f,zb4 P md ops Q S C d f listed a w
 | 0=>⟨hr,h⟩
 | _+1=>⟨fun _=>h,by rw [hr];simp⟩
theorem zau {id:Nat} (S C:World→Prop) (d:Nat) (hm:P.follows .mixedOrders=true) (h:zb4 P .any ops Q S C d ops.size (Array.replicate ops.size false) a w.drew):(Code.region id ops true).wp P Q a w:=
 wp_region_any hm (zd0 _ _ _ _ h)
end
end
end Go.Proofs.YtjkimieapfbhbaaGreatDoor
