/-
 A statement with numbers is put at the end of a list in a box of its own.
-/
import Derived.Test.YtjkimieapfbhbaaGreatDoorKYi
set_option maxRecDepth 100000
set_option maxHeartbeats 16000000
open Go.Value renaming slice → l, int → r, string → y, bool → C
open Option renaming none → m
open Nat renaming le_refl → o, lt_of_lt_of_le → H, lt_of_lt_of_eq → J, lt_succ_self → L
open Go.Proofs.YtjkimieapfbhbaaGreatDoor.KB renaming setAt → B, of_below → I
open Go.Obj renaming cells → D
open Bool renaming noConfusion → E
open Go.Proofs.YtjkimieapfbhbaaGreatDoor.AllReadyT renaming cons → F, nil → G
namespace Go.Proofs.YtjkimieapfbhbaaGreatDoor
open Go.RowKit
def PutN (d:Nat) (X:Nat→Prop) (base g:Nat) (v:Value) (its:List (List Value)) (w w':World):Prop:=
 ∃ v' its',Row w' g 173 [v']∧Grows d X base w' v' its'∧(its.length≤its'.length∧its'.length≤its.length+1)∧KB (fun b=>X b∨v.ownBlock=some b) w w'∧(∀ b,v'.ownBlock=some b→v.ownBlock=some b∨w.heap.size≤b)
theorem zdQ {d:Nat} {X:Nat→Prop} {base g b2 c2:Nat} {v:Value} {its:List (List Value)} {A1:Option Addr} {c1:Nat} {ws:List (ByteArray × Bool)} {w W1 w2:World} (hX:X g) (R:Row w g 173 [v]) (h:Grows (d+1) X base w v its) (hW:Below w.heap.size w W1)
 (ho1:W1.ownsRow w.heap.size 217 2 (l A1 ws.length c1) ws.length (ws.flatMap wdC)) (hl:1≤ws.length∧ws.length≤60) (hw:∀ x∈ws,Wt x.1) (hg2:W1.grownBy w2 v.ownBlock)
 (hv2:(l (some ⟨b2,0,m⟩) (its.length+1) c2).ownBlock=v.ownBlock∨(l (some ⟨b2,0,m⟩) (its.length+1) c2).ownBlock=some W1.heap.size)
 (hown2:w2.ownsRow base 211 4 (l (some ⟨b2,0,m⟩) (its.length+1) c2) (its.length+1) (its.flatten++[r .i64 0,l m 0 0,C false,l m 0 0])) :
 PutN (d+1) X base g v its w ((zcn w2 b2 its.length (l A1 ws.length c1)).setCell ⟨g,0,m⟩ (l (some ⟨b2,0,m⟩) (its.length+1) c2)):=by
 obtain ⟨h1,h2⟩:=zgI h hW ho1 hl hw hg2 hv2 hown2;have hs:=hW.size;have hgl:=R.lt;have hgv:v.ownBlock≠some g:=fun q=>h.nx g q hX
 have hrow:Row (zcn w2 b2 its.length (l A1 ws.length c1)) g 173 [v]:=((h2.block g (by omega) (fun q=>hgv q.symm)).trans (hW.block g hgl)).trans R;refine ⟨_,_,hrow.set (i:=0) (v := l (some ⟨b2,0,m⟩) (its.length+1) c2),h1.keep (by simp) fun b _ hb=>heap_setCell_other _ ⟨g,0,m⟩ b _ (fun q=>hb (by have q':b=g:=q;rw [q'];exact hX)),by simp,?_,fun b q => ?_⟩
 refine ((I hW).grow h2 fun b q => .inl (.inr q)).set 0 _ (.inl hX)
 rcases hv2 with z | z
 · exact .inl (z.symm.trans q)
 · rw [z] at q
   cases q
   exact .inr hs
theorem zdW {w:World} {k size n:Nat} {t:TypeId} {cs:List Value} (h:Row w k t cs) (hn:cs.length=n*size):Src w size (some ⟨k,0,m⟩) n cs:=
 ⟨hn,fun _=>⟨_,rfl,fun j u hu=>by rw [Addr.add_mid,Nat.zero_add];exact h.cell hu⟩⟩
theorem zlR {w:World} {k:Nat} (xs:List ByteArray) (R:Row w k 9 (xs.map y)) (h:∀ s∈xs,Wt s):Rw WtC 1 w (fun b=>b=k) (some ⟨k,0,m⟩) xs.length xs:=by
 refine ⟨rfl,fun _=>⟨_,0,rfl,rfl,fun i x hx=>⟨[y x],rfl,⟨rfl,h x (List.mem_of_getElem? hx)⟩,fun j u hu => ?_⟩⟩⟩
 have hj:j=0:=by have:=(List.getElem?_eq_some_iff.1 hu).1;simp at this;omega
 subst hj;have h2:=R.cell (k:=i) (v := y x) (by simp [hx]);simp at hu
 subst hu;simpa using h2
theorem zc5 (xs:List ByteArray) (n:Nat) (hn:xs.length=n) (hl:n≤40) (hw:∀ s∈xs,Wt s) (W:World) (k:Nat) (R:Row W k 9 (xs.map y)):Calls Tryz.prog 122 #[l (some ⟨k,0,m⟩) n n] W (zd1 W.heap.size n n W):=by
 subst hn;exact stm_ok (fun b=>b=k) (some ⟨k,0,m⟩) xs.length xs W (zlR xs R hw) hl (fun b hb=>by subst hb;exact R.lt)
theorem zfA {W:World} {base base2 n c1 c2:Nat} {A1 A2:Option Addr} {ws:List (ByteArray × Bool)} {ss:List ByteArray} (ho1:W.ownsRow base 217 2 (l A1 ws.length c1) ws.length (ws.flatMap wdC)) (hb:base≤W.heap.size) (hw1:∀ x∈ws,Wt x.1) (hl1:ws.length≤19)
 (ho2:W.ownsRow base2 9 1 (l A2 n c2) n (ss.map y)) (hss:ss.length=n) (hw2:∀ s∈ss,Wt s) (hn:n≤40) (hne:∀ b,(l A1 ws.length c1).ownBlock=some b→b<base2) :
 Calls Tryz.prog 123 #[.agg #[r .i64 0,l A1 ws.length c1,C false,l m 0 0],l A2 n c2] W (fun e w'=>zd1 base (ws.length+n) (ws.length+n) W e w'∧KB (fun b=>(l A1 ws.length c1).ownBlock=some b) W w'):=by
 subst hss
 have hr:Rw WtC 1 W (fun b=>b<W.heap.size∧(l A1 ws.length c1).ownBlock≠some b) A2 ss.length ss:=
  Rw.of_own (f:=fun s=>[y s]) (base:=base2) (e := 9) (c:=c2) (by simpa [List.map_eq_flatMap] using ho2) rfl (fun _ _=>rfl) (fun x hx=>⟨rfl,hw2 x hx⟩) (fun b h1 h2=>⟨h2,fun q=>by have:=hne b q;omega⟩)
 refine (zdn _ A2 c2 base A1 c1 ws ss W hr hn hb ho1 hw1 hl1 (fun b q=>q)).mono ?_
 rintro e w' ⟨h,hk⟩
 refine ⟨h,?_⟩
 obtain ⟨A',c',ws',-,-,-,-,-,hbel⟩:=h;exact ⟨hbel.os,hbel.tape,hbel.output,hbel.size,fun b hb hn=>hk b ⟨hb,hn⟩⟩
def RetK (d lim:Nat) (w:World) (e:Ending) (w':World):Prop:=
 ∃ A c,∃ its:List (List Value),e = .returned (l A its.length c)∧its.length≤lim∧(its.length≤c∧c≤maxLen)∧Grows d (fun _=>False) w.heap.size w' (l A its.length c) its∧Below w.heap.size w w'
theorem zlL {w:World} {k:Nat} (ns:List Int) (R:Row w k 3 (ns.map fun n => r .i64 n)) (h:∀ n∈ns,I64 n):Rw IntW 1 w (fun b=>b=k) (some ⟨k,0,m⟩) ns.length ns:=by
 refine ⟨rfl,fun _=>⟨_,0,rfl,rfl,fun i x hx=>⟨[r .i64 x],rfl,⟨rfl,h x (List.mem_of_getElem? hx)⟩,fun j u hu => ?_⟩⟩⟩
 have hj:j=0:=by have:=(List.getElem?_eq_some_iff.1 hu).1;simp at this;omega
 subst hj;have h2:=R.cell (k:=i) (v := r .i64 x) (by simp [hx]);simp at hu
 subst hu;simpa using h2
theorem zhn (ns:List Int) (n:Nat) (hn:ns.length=n) (hl:n≤40) (h:∀ n∈ns,I64 n) (W:World) (k:Nat) (T:Tab W) (R:Row W k 3 (ns.map fun n => r .i64 n)):Calls Tryz.prog 155 #[l (some ⟨k,0,m⟩) n n] W (zeP n W):=by
 subst hn;exact zgs (fun b=>b=k) (some ⟨k,0,m⟩) ns.length ns W T (zlL ns R h) hl (fun b hb=>by subst hb;exact R.lt)
theorem zaX {n:Int} (h : -1000000≤n∧n≤1000000):I64 n:=by unfold I64;omega
theorem zjs (d:Nat) (X S:Nat→Prop) (base g:Nat) (v:Value) (its:List (List Value)) (used:Bool) (word:ByteArray) (A:Option Addr) (c:Nat) (ns:List Int) (w:World) (T:Tab w) (hX:X g) (R:Row w g 173 [v]) (h:Grows (d+1) X base w v its) (hn:its.length≤200) (hwd:Wt word)
 (hw:Rw IntW 1 w S A ns.length ns) (hl:ns.length≤20) (hS:∀ b,S b→b<w.heap.size) :
 Calls Tryz.prog 154 #[C used,y word,l A ns.length c,.pointer (some ⟨g,0,m⟩)] w (fun e w'=>e = .returned (.tuple #[])∧PutN (d+1) X base g v its w w'):=by
 cases used with
 | false =>
   have HFIN:PutN (d+1) X base g v its w w:=⟨v,its,R,h,⟨o _,Nat.le_succ _⟩,KB.refl _ _,fun b q => .inl q⟩
   clear R h hw T
   go_enter Tryz.func154,Tryz.ntmps154
   go_wp2
   go_end0
   exact ⟨rfl,HFIN⟩
 | true =>
   obtain ⟨i0,hi,hz0,hz1,hz2⟩:=info_parts zcK
   have HTI:=Hd (And.intro hi (And.intro hz0 (And.intro hz1 hz2)))
   clear hi hz0 hz1 hz2
   have gl:=R.lt
   have y0:=Row.cell (k:=0) (v:=v) R rfl
   have HR:=Hd R
   have HG:=Hd h
   have HST:=Hd (zc5 [word] 1 rfl (by decide) (by intro s hs;simp at hs;subst hs;exact hwd))
   have HDG:=Hd (show ∀ W',Below w.heap.size w W'→Calls Tryz.prog 155 #[l A ns.length c] W' (zeP ns.length W') from fun W' hW=>zgs S A c ns W' (T.below hW T.2) (hw.mono IntW.mono (fun _ q=>q) (zbc hW hS)) (by omega) (fun b hb=>H (hS b hb) hW.size))
   obtain ⟨AV,cV,rfl,-,-⟩:=zac h.own
   have hlo:=h.lo
   have hng:(l AV its.length cV).ownBlock≠some g:=fun q=>h.nx g q hX
   have HNG:=Hd hng
   have HFL:=Hd (zbT h.each)
   have hi1:(its.length:Int)<(its.length:Int)+1:=by omega
   have hi0:(0:Int)≤(its.length:Int):=by omega
   have HXX:=Hd hX
   clear R h hw T hng hX hS
   go_enter Tryz.func154,Tryz.ntmps154
   go_upto_region 1 with fail
   refine zau (fun w'=>KB (fun b=>b=g∨(l AV its.length cV).ownBlock=some b) w w') (fun w'=>Below w.heap.size w w') 9 (by kernel_rfl) ?_
   obtain ⟨wx,hwd0⟩:∃ x,x=w.drew:=⟨_,rfl⟩
   have hS:KB (fun b=>b=g∨(l AV its.length cV).ownBlock=some b) w wx:=by rw [hwd0];exact (KB.refl _ _).drew
   have hC:Below w.heap.size w wx:=by rw [hwd0];exact (Below.refl _ _).drew
   rw [← hwd0]
   clear hwd0
   have hz:=hC.size
   have hCC:=hC
   refine zbO (i:=0) (v:=?_) rfl (by kernel_rfl) (by kernel_rfl) (by kernel_rfl) (by rfl) (by kernel_rfl) (by kernel_rfl) (fun _ _ _ h=>h) hS hCC (Or.inl ⟨by rfl,?yld⟩) ?_
   case yld=>(intro wq hSw;have e:=(hSw.cell (p:=⟨g,0,m⟩) gl).trans y0;go_simp <;> with_reducible rfl)
   refine zam 1 rfl hS (fun _=>hCC) ?_
   refine zam 4 rfl hS (fun _=>hCC) ?_
   refine zam 7 rfl hS (fun _=>hCC) ?_
   iterate 5 (all_goals (focus (
    (first
     | (refine zad (rs:=[2,8]) (by decide +kernel) (by simp) ?_)
     | (refine zad (rs:=[3,8]) (by decide +kernel) (by simp) ?_)
     | (refine zad (rs:=[5,8]) (by decide +kernel) (by simp) ?_)
     | (refine zad (rs:=[6,8]) (by decide +kernel) (by simp) ?_)
     | (refine zad (rs:=[8]) (by decide +kernel) (by simp) ?_)
     | (refine zad (rs:=[6]) (by decide +kernel) (by simp) ?_)
     | (refine zad (rs:=[5]) (by decide +kernel) (by simp) ?_)
     | (refine zad (rs:=[3]) (by decide +kernel) (by simp) ?_)
     | (refine zad (rs:=[2]) (by decide +kernel) (by simp) ?_))
    repeat' (first | exact G | (refine F rfl (fun K hK => ?_) ?_))
    all_goals (focus (
     go_simp
     first
     | (go_at_call 122
        (with_reducible refine (HST.out _ _ HRL.out).mono ?_)
        rintro e wy ⟨A1,c1,ws,rfl,hlen,hcc,ho1,hw1,hb1⟩
        have hC1:=hC.trans (hb1.mono hC.size)
        go_wp2_with fail
        refine hK.out _ _ (I hC1) (fun _=>hC1) ?_
        clear hS hC hCC
        intro hS hCC
        replace hCC:=hCC rfl
        have hC:=hCC
        clear hK K
        try replace HRL:=Hd (HRL.out.below hb1 HRL.out.lt)
        try replace HRZ:=Hd (HRZ.out.below hb1 HRZ.out.lt)
        try replace HO1:=Hd (zab HO1.out hb1 (o _))
        try replace HO2:=Hd (zab HO2.out hb1 (o _))
        try replace HO3:=Hd (zab HO3.out hb1 (o _))
        have HO1:=Hd ho1
        have HWW:=Hd hw1
        have HLN:=Hd hlen
        have hz:=hb1.size
        have hzc:=hC1.size
        have HA1:=Hd (show ∀ b,(l A1 ws.length c1).ownBlock=some b→wx.heap.size≤b∧b<wy.heap.size from fun b q=>ho1.lt b q)
        clear ho1 hw1 hb1 hlen hC1
        generalize hwx:wy=wx at *
        clear hwx)
     | (go_at_call 155
        (with_reducible refine (HDG.out _ hC).mono ?_)
        rintro e wy ⟨A2,c2',ss,rfl,hss,hc2,hw2,ho2,hb2⟩
        have hC1:=hC.trans (hb2.mono hC.size)
        go_wp2_with fail
        refine hK.out _ _ (I hC1) (fun _=>hC1) ?_
        clear hS hC hCC
        intro hS hCC
        replace hCC:=hCC rfl
        have hC:=hCC
        clear hK K
        try replace HRL:=Hd (HRL.out.below hb2 HRL.out.lt)
        try replace HRZ:=Hd (HRZ.out.below hb2 HRZ.out.lt)
        try replace HO1:=Hd (zab HO1.out hb2 (o _))
        try replace HO2:=Hd (zab HO2.out hb2 (o _))
        try replace HO3:=Hd (zab HO3.out hb2 (o _))
        have HO2:=Hd ho2
        have HSS:=Hd hss
        have HW2:=Hd hw2
        have hz:=hb2.size
        have HNE:=Hd (show ∀ b,(l A1 ws.length c1).ownBlock=some b→b<wx.heap.size from fun b q=>by have:=HA1.out b q;omega)
        clear ho2 hb2 hss hw2 hC1
        generalize hwx:wy=wx at *
        clear hwx)
     | (go_at_call 123
        (with_reducible refine (zfA (zao (base':=w.heap.size) HO1.out (by omega)) hC.size HWW.out (by have:=HLN.out;omega) HO2.out HSS.out HW2.out (by omega) HNE.out).mono ?_)
        rintro e wy ⟨⟨A3,c3,ws3,rfl,hlen3,hcc3,ho3,hw3,hb3⟩,hkb⟩
        have hC1:=hC.trans hb3
        go_wp2_with fail
        refine hK.out _ _ (I hC1) (fun _=>hC1) ?_
        clear hS hC hCC
        intro hS hCC
        replace hCC:=hCC rfl
        have hC:=hCC
        clear hK K
        try replace HRZ:=Hd (show Row wy _ _ _ from (hkb.block _ HRZ.out.lt (fun q=>by have:=HA1.out _ q;omega)).trans HRZ.out)
        have HO3:=Hd ho3
        have HW3:=Hd hw3
        have HLN3:=Hd hlen3
        have hz:=hkb.size
        clear ho3 hw3 hb3 hlen3 hkb hC1 HO1 HO2
        generalize hwx:wy=wx at *
        clear hwx)
     | (with_reducible refine hK.out _ _ (KB.alloc hS (D #[y word] 9)) (fun _=>hC.alloc hC.size _) ?_
        clear hS hC hCC
        intro hS hCC
        replace hCC:=hCC rfl
        have hC:=hCC
        clear hK K
        have hbb:=zaa wx (D #[y word] 9)
        try replace HRL:=Hd (HRL.out.below hbb HRL.out.lt)
        try replace HRZ:=Hd (HRZ.out.below hbb HRZ.out.lt)
        try replace HO1:=Hd (zab HO1.out hbb (o _))
        try replace HO2:=Hd (zab HO2.out hbb (o _))
        try replace HO3:=Hd (zab HO3.out hbb (o _))
        have HRL:=Hd (Row.new (w:=wx) (t := 9) wx.heap.size [y word] rfl)
        have hz:=J (L _) (World.size_alloc wx (D #[y word] 9)).symm
        clear hbb
        generalize wx.alloc (D #[y word] 9)=wx at *)
     | (with_reducible refine hK.out _ _ (KB.alloc hS (D #[r .i64 0,l m 0 0,C false,l m 0 0] 211)) (fun _=>hC.alloc hC.size _) ?_
        clear hS hC hCC
        intro hS hCC
        replace hCC:=hCC rfl
        have hC:=hCC
        clear hK K
        have hbb:=zaa wx (D #[r .i64 0,l m 0 0,C false,l m 0 0] 211)
        try replace HRL:=Hd (HRL.out.below hbb HRL.out.lt)
        try replace HRZ:=Hd (HRZ.out.below hbb HRZ.out.lt)
        try replace HO1:=Hd (zab HO1.out hbb (o _))
        try replace HO2:=Hd (zab HO2.out hbb (o _))
        try replace HO3:=Hd (zab HO3.out hbb (o _))
        have HRZ:=Hd (Row.new (w:=wx) (t := 211) wx.heap.size [r .i64 0,l m 0 0,C false,l m 0 0] rfl)
        have hz:=J (L _) (World.size_alloc wx (D #[r .i64 0,l m 0 0,C false,l m 0 0] 211)).symm
        clear hbb
        generalize wx.alloc (D #[r .i64 0,l m 0 0,C false,l m 0 0] 211)=wx at *)
    ))
   )))
   all_goals (focus (
    refine zad (rs:=[9]) (by kernel_rfl) (by simp) ?_
    refine F (i:=9) rfl (fun K hK => ?_) ?_
    · skip
      have HC1:=Hd hC
      refine zai (w:=wx) _ _ 173 rfl rfl Tryz.underlying173 HTI.out.1 HTI.out.2.1 HTI.out.2.2.1 HTI.out.2.2.2 rfl (by decide) rfl (zab HG.out.own hC (o _)) rfl (zdW HRZ.out rfl) (by simp [Value.oneCell']) (by unfold maxLen;omega) (by omega) (by have:=hC.size;omega) ?_
      intro v2 wg1 hown2 hg2 hv2
      obtain ⟨b2,c2,hv2e,hb2,hb2l⟩:=hown2.form (by omega)
      subst hv2e
      refine hK.out _ _ (KB.grow hS hg2 fun b q => .inl (.inr q)) (fun q=>E (show true=false from q)) (fun hS hCC => ?_)
      clear hK K
      have HOWN2:=Hd hown2
      have HG2:=Hd hg2
      have HV2:=Hd hv2
      have gx:=(World.cell?_of_block (a:=⟨g,0,m⟩) (hg2.block g (H gl HC1.out.size) (fun q=>HNG.out q.symm))).trans ((HC1.out.cell (p:=⟨g,0,m⟩) gl).trans y0)
      have gf:=(World.frozen?_of_block (a:=⟨g,0,m⟩) (hg2.block g (H gl HC1.out.size) (fun q=>HNG.out q.symm))).trans ((HC1.out.frozen (p:=⟨g,0,m⟩) gl).trans (Row.free HR.out 0))
      have e0:=za4 hown2 HFL.out 0 (u := r .i64 0) rfl
      have e1:=za4 hown2 HFL.out 1 (u := l m 0 0) rfl
      have e2:=za4 hown2 HFL.out 2 (u := C false) rfl
      have e3:=za4 hown2 HFL.out 3 (u := l m 0 0) rfl
      rw [Nat.add_zero] at e0
      have ef0:=hown2.frozenAt (its.length*4)
      have ef1:=hown2.frozenAt (its.length*4+1)
      have ef2:=hown2.frozenAt (its.length*4+2)
      have ef3:=hown2.frozenAt (its.length*4+3)
      have hgb:g≠b2:=zcz hv2 rfl HNG.out (H gl HC1.out.size)
      have hbg:=hgb.symm
      have hbX:(b2=g∨(l AV its.length cV).ownBlock=some b2)∨w.heap.size≤b2:=by
       rcases hv2 with q | q
       · exact .inl (.inr q.symm)
       · have:=HC1.out.size
         have q':b2=wx.heap.size:=by cases q;rfl
         exact .inr (by omega)
      clear hown2 hg2 hv2
      refine zam 10 rfl hS (fun q=>E (show true=false from q)) ?_
      refine zad (rs:=[11,12]) (by kernel_rfl) (by simp) ?_
      refine F (i:=11) rfl (fun K hK => ?_) ?_
      · skip
        go_simp
        refine hK.out _ _ (B (B (B (B hS hbX _ _) hbX _ _) hbX _ _) hbX _ _) (fun q=>E (show true=false from q)) (fun hS hCC => ?_)
        clear hK K
        refine zad (rs:=[12]) (by kernel_rfl) (by simp) ?_
        refine F (i:=12) rfl (fun K hK => ?_) ?_
        · skip
          go_simp
          refine hK.out _ _ (B hS (.inl (.inl rfl)) _ _) (fun q=>E (show true=false from q)) (fun hS hCC => ?_)
          clear hK K
          refine zaR (by kernel_rfl) ?_ _
          have HFIN:=zdQ HXX.out HR.out HG.out HC1.out HO3.out (by have:=HLN3.out;have:=HLN.out;omega) HW3.out HG2.out HV2.out HOWN2.out
          have HFIN2:=HFIN
          unfold zcn at HFIN2
          rw [← zb3 g b2 0 _ hgb _ _] at HFIN2
          simp only [zcn,Go.Proofs.YtjkimieapfbhbaaGreatDoor.sets,List.foldl_cons,List.foldl_nil] at HFIN HFIN2
          go_end0
          first
           | (with_reducible exact ⟨rfl,HFIN⟩)
           | (with_reducible exact ⟨rfl,HFIN2⟩)
        exact G
      refine F (i:=12) rfl (fun K hK => ?_) ?_
      · skip
        go_simp
        refine hK.out _ _ (B hS (.inl (.inl rfl)) _ _) (fun q=>E (show true=false from q)) (fun hS hCC => ?_)
        clear hK K
        refine zad (rs:=[11]) (by kernel_rfl) (by simp) ?_
        refine F (i:=11) rfl (fun K hK => ?_) ?_
        · skip
          go_simp
          refine hK.out _ _ (B (B (B (B hS hbX _ _) hbX _ _) hbX _ _) hbX _ _) (fun q=>E (show true=false from q)) (fun hS hCC => ?_)
          clear hK K
          refine zaR (by kernel_rfl) ?_ _
          have HFIN:=zdQ HXX.out HR.out HG.out HC1.out HO3.out (by have:=HLN3.out;have:=HLN.out;omega) HW3.out HG2.out HV2.out HOWN2.out
          have HFIN2:=HFIN
          unfold zcn at HFIN2
          rw [← zb3 g b2 0 _ hgb _ _] at HFIN2
          simp only [zcn,Go.Proofs.YtjkimieapfbhbaaGreatDoor.sets,List.foldl_cons,List.foldl_nil] at HFIN HFIN2
          go_end0
          first
           | (with_reducible exact ⟨rfl,HFIN⟩)
           | (with_reducible exact ⟨rfl,HFIN2⟩)
        exact G
      exact G
    exact G
   ))
end Go.Proofs.YtjkimieapfbhbaaGreatDoor
