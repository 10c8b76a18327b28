/-
 One step of the communication.
-/
import Derived.Test.YtjkimieapfbhbaaGreatDoorKOf
import Derived.Test.YtjkimieapfbhbaaGreatDoorYj
set_option maxRecDepth 100000
set_option maxHeartbeats 64000000
open Go.Value renaming int → a, slice → f, bool → C, agg → J
open Go.IntKind renaming i64 → d
open Option renaming none → u
open Go.Obj renaming cells → E
open Go.Proofs.YtjkimieapfbhbaaGreatDoor.KB renaming setAt → H, refl → U, of_below → ja
open List renaming mem_of_getElem? → I, foldl_cons → jf, foldl_nil → jg, mem_cons → jh, length_map → ji
open Bool renaming noConfusion → M
open Go.Proofs.YtjkimieapfbhbaaGreatDoor.Row renaming cell → O, new → Z
open Go.Proofs.YtjkimieapfbhbaaGreatDoor.AllReadyT renaming nil → P, cons → Q
open Nat renaming le_refl → V, zero_le → W, lt_of_lt_of_le → Y, lt_succ_self → jb, not_lt_zero → jc, add_assoc → jd, reduceAdd → je
namespace Go.Proofs.YtjkimieapfbhbaaGreatDoor
open Go.RowKit
def za7 (st:Int) (L:List PubE) (n:Nat):List Bool:=match L[n]? with
 | some e=>e.sigs.map fun z=>bitP st e.relay z.toNat
 | Option.none=>[]
def OffR (W0:World) (base:Nat) (vP vS:Value) (vs:List Value) (nP:Nat) (G:Nat→PbM) (ln:List Nat) (F:Nat→Nat→SbM) (wr:World):Prop:=
 OffS wr base vP vS vs nP G ln F∧KB (fun b=>some b∈roles vP vS vs) W0 wr
theorem zeJ {X:Nat→Prop} {g:Nat} (hg:X g):∀ (l:List (Nat × Value)) (w:World),KB X w (sets g w l)
 | [],w=>U X w
 | p::l,w=>((U X w).set p.1 p.2 hg).trans (zeJ hg l _)
def Tk1 (W0:World) (base:Nat) (vP vS:Value) (vs:List Value) (nP:Nat) (G:Nat→PbM) (ln:List Nat) (F:Nat→Nat→SbM) (i:Value) (wr:World):Prop:=
 ∃ m:Nat,m≤vs.length∧i = a d (m:Int)∧OffR W0 base vP vS vs nP G ln (fun i' k'=>if i'<m then (F i' k').ticked else F i' k') wr
def Tk2 (W0:World) (base:Nat) (vP vS:Value) (vs:List Value) (nP:Nat) (G:Nat→PbM) (ln:List Nat) (F:Nat→Nat→SbM) (m n:Nat) (k:Value) (wr:World):Prop:=
 ∃ j:Nat,j≤n∧k = a d (j:Int)∧OffR W0 base vP vS vs nP G ln (fun i' k'=>if i'<m∨(i'=m∧k'<j) then (F i' k').ticked else F i' k') wr
theorem zlS {w:World} {S:Nat→Prop} {A:Option Addr} {n z:Nat} {t:TypeId} {bs:List Bool} {cs:List Value} (h:Rw ValK 6 w S A n bs) (R:Row w z t cs) (hc:∀ v∈cs,∃ A n c,v=f A n c):Rw ValK 6 w (fun b=>S b∧b≠z) A n bs:=by
 refine ⟨h.1,fun hn => ?_⟩
 obtain ⟨b,o,e,hb,hr⟩:=h.2 hn;refine ⟨b,o,e,⟨hb,?_⟩,hr⟩
 rintro rfl
 have hl:0<bs.length:=by have:=h.1;omega
 obtain ⟨cs',-,hv,hat⟩:=hr 0 _ (List.getElem?_eq_getElem hl);subst hv;have h0:=hat 0 (a d 1) rfl;rw [cell_of_row w b _ _ t (0,0) R] at h0
 have hm:a d 1∈cs:=by
  have:=Array.mem_of_getElem? h0;simpa using this
 obtain ⟨A',n',c',q⟩:=hc _ hm
 cases q
theorem LstF.imp {α:Type} {R R':World→(Nat→Prop)→List Value→α→Prop} {t:TypeId} {size base n:Nat} {w:World} {S S':Nat→Prop} {v:Value} {F:Nat→α} (h:LstF R t size base w S v n F) (hR:∀ cs x,R w S cs x→R' w S' cs x):LstF R' t size base w S' v n F:=by
 obtain ⟨css,h1,h2,h3⟩:=h;exact ⟨css,h1,h2,fun k cs hc=>⟨(h3 k cs hc).1,hR _ _ (h3 k cs hc).2⟩⟩
theorem OffS.box {w:World} {base nP z:Nat} {t:TypeId} {vP vS:Value} {vs cs:List Value} {G:Nat→PbM} {ln:List Nat} {F:Nat→Nat→SbM} (h:OffS w base vP vS vs nP G ln F) (R:Row w z t cs) (hc:∀ v∈cs,∃ A n c,v=f A n c) (hz:some z ∉ roles vP vS vs) (l:List (Nat × Value)) :
 OffS (sets z w l) base vP vS vs nP G ln F:=by
 have hs:(sets z w l).heap.size=w.heap.size:=zbw _ _ _;have hr:∀ b,some b∈roles vP vS vs→(sets z w l).heap[b]? = w.heap[b]? := fun b q=>zaf z l w b (fun e=>hz (e ▸ q))
 have hS:∀ b,(zb8 (roles vP vS vs) w b∧b≠z)→zb8 (roles vP vS vs) (sets z w l) b:=fun b q=>⟨by rw [hs];exact q.1.1,q.1.2⟩
 have hk:KeepOn (fun b=>zb8 (roles vP vS vs) w b∧b≠z) w (sets z w l):=fun b q=>zaf z l w b q.2
 refine ⟨h.inj,fun b q=>by rw [hs];exact h.lt b q,(h.pubs.imp (fun cs x ⟨A,c,e1,e2,e3⟩=>⟨A,c,e1,e2,zlS e3 R hc⟩)).keep PbC.mono hS hk (fun b q=>hr b (by simp [roles,q])),zat h.outer (fun b q=>hr b (by simp [roles,q])),h.len,fun i v n hv hn => ?_⟩
 exact ((h.subs i v n hv hn).imp (fun cs x ⟨A,c,e1,e2,e3⟩=>⟨A,c,e1,e2,zlS e3 R hc⟩)).keep SbC.mono hS hk fun b q=>hr b (by
  simp only [roles,jh,List.mem_map];exact .inr (.inr ⟨v,I hv,q⟩))
def OpbR (W0:World) (base:Nat) (vP vS:Value) (vs:List Value) (st:Int) (L:List PubE) (G:Nat→PbM) (D:Nat→Nat→Nat) (ln:List Nat) (m:Nat) (wr:World):Prop:=
 OffR W0 base vP vS vs L.length (fun n=>if n<m then (G n).next (za7 st L n) else G n) ln (fun i k=>if D i k<m then zaB ((G (D i k)).next (za7 st L (D i k))) else (zaB (G (D i k))).ticked) wr
def Pb3 (W0:World) (base:Nat) (vP vS:Value) (vs:List Value) (st:Int) (L:List PubE) (G:Nat→PbM) (D:Nat→Nat→Nat) (ln:List Nat) (i:Value) (wr:World):Prop:=
 ∃ m:Nat,m≤L.length∧i = a d (m:Int)∧OpbR W0 base vP vS vs st L G D ln m wr
def VlR (w4:World) (bs:List Bool) (v i:Value) (wr:World):Prop:=
 ∃ j:Nat,j≤bs.length∧i = a d (j:Int)∧wr.ownsRow w4.heap.size 73 6 v j (zaT (bs.take j))∧Below w4.heap.size w4 wr
def TkF (st:Int) (L:List PubE) (G:Nat→PbM) (D:Nat→Nat→Nat) (m i0 k0:Nat) (i k:Nat):SbM:=
 if D i k<m∨(D i k=m∧(i<i0∨(i=i0∧k<k0))) then zaB ((G (D i k)).next (za7 st L (D i k))) else (zaB (G (D i k))).ticked
def SnR (wc:World) (base:Nat) (vP vS:Value) (vs:List Value) (st:Int) (L:List PubE) (G:Nat→PbM) (D:Nat→Nat→Nat) (ln:List Nat) (m i k:Nat) (wr:World):Prop:=
 OffS wr base vP vS vs L.length (fun n=>if n<m+1 then (G n).next (za7 st L n) else G n) ln (TkF st L G D m i k)∧KB (fun b=>some b∈roles vP vS vs) wc wr
theorem OffS.old {w:World} {base nP:Nat} {vP vS:Value} {vs:List Value} {G:Nat→PbM} {ln:List Nat} {F:Nat→Nat→SbM} (h:OffS w base vP vS vs nP G ln F) {b:Nat} (hb:b<base):some b ∉ roles vP vS vs:=fun q=>by have:=(h.lt b q).1;omega
theorem zmv {s:Nat} (hs:s≤59) (B base:Nat) (st:Int) (hst:0≤st∧st≤18446744073709551615) (A7 A8:Option Addr) (c7 c8 n8:Nat) (L:List PubE) (vP vS:Value) (vs:List Value) (G:Nat→PbM) (D:Nat→Nat→Nat) (ln:List Nat) (w:World) (hB:B≤base) (hw:base≤w.heap.size)
 (hL:Rws PubR 5 w B A7 L.length L) (hl:L.length≤100) (hE:∀ e∈L,e.relay≤900∧e.sigs.length≤24∧∀ z∈e.sigs,0≤z∧z≤900) (hO:OffS w base vP vS vs L.length G ln (fun i k=>zaB (G (D i k))))
 (hv:vs.length≤20) (hn:∀ n∈ln,n≤24) (hD:∀ (i n k:Nat),ln[i]? = some n→k<n→D i k<L.length) (hG:∀ n,n<L.length→(G n).Good s∧(G n).pub=(n:Int)) :
 Calls Tryz.prog 7 #[J #[f A7 L.length c7,f A8 n8 c8,vP,vS],a .u64 st] w (fun e w'=>e = .returned (J #[f A7 L.length c7,f A8 n8 c8,vP,vS]) ∧
  OffS w' base vP vS vs L.length (fun n=>(G n).next (za7 st L n)) ln (fun i k=>zaB ((G (D i k)).next (za7 st L (D i k))))∧Below base w w'∧KB (fun b=>some b∈roles vP vS vs) w w'):=by
 obtain ⟨j0,hi,hz0,hz1,hz2⟩:=info_parts zhu;have HTV:=Hd (And.intro hi (And.intro hz0 (And.intro hz1 hz2)));clear hi hz0 hz1 hz2
 obtain ⟨AP,cP,rfl,-,-⟩:∃ A c,vP = f A L.length c∧L.length≤c∧c≤maxLen:=by
  obtain ⟨css,h1,-⟩:=hO.pubs;exact zac h1
 obtain ⟨AS,cS,rfl,-,-⟩:=zac hO.outer;have hb:Below w.heap.size w ((w.alloc (E #[f A7 L.length c7,f A8 n8 c8,f AP L.length cP,f AS vs.length cS] 42)).alloc (E #[f u 0 0,f u 0 0,f u 0 0,f u 0 0] 42)):=(zaa w _).alloc (by simp) _;have RB:Row ((w.alloc (E #[f A7 L.length c7,f A8 n8 c8,f AP L.length cP,f AS vs.length cS] 42)).alloc (E #[f u 0 0,f u 0 0,f u 0 0,f u 0 0] 42)) w.heap.size 42 [f A7 L.length c7,f A8 n8 c8,f AP L.length cP,f AS vs.length cS]:=(Z _ [f A7 L.length c7,f A8 n8 c8,f AP L.length cP,f AS vs.length cS] rfl).below (zaa _ _) (by simp);have RZ:Row ((w.alloc (E #[f A7 L.length c7,f A8 n8 c8,f AP L.length cP,f AS vs.length cS] 42)).alloc (E #[f u 0 0,f u 0 0,f u 0 0,f u 0 0] 42)) (w.heap.size+1) 42 [f u 0 0,f u 0 0,f u 0 0,f u 0 0]:=Z _ [f u 0 0,f u 0 0,f u 0 0,f u 0 0] (by simp);have hO1:=hO.below hb;have hsz:(((w.alloc (E #[f A7 L.length c7,f A8 n8 c8,f AP L.length cP,f AS vs.length cS] 42)).alloc (E #[f u 0 0,f u 0 0,f u 0 0,f u 0 0] 42))).heap.size=w.heap.size+2:=by simp
 have HSZ:=Hd hsz;have HB:=Hd hb;have HRB:=Hd RB;have HRZ:=Hd RZ;have HO1:=Hd hO1;have HLL:=Hd (hL.mono PubR.mono (V _) (hb.mono (Nat.le_trans hB hw)));have HE:=Hd hE;have HD:=Hd hD;have HGG:=Hd hG;have HLN:=Hd hn;have HNR:=Hd (show ∀ b,some b∈roles (f AP L.length cP) (f AS vs.length cS) vs→b<w.heap.size from fun b q=>(hO.lt b q).2);clear hb RB RZ hO1 hsz hL hE hD hG hn hO;go_enter Tryz.func7,Tryz.ntmps7;go_upto_region 1 with fail
 generalize ((w.alloc (E #[f A7 L.length c7,f A8 n8 c8,f AP L.length cP,f AS vs.length cS] 42)).alloc (E #[f u 0 0,f u 0 0,f u 0 0,f u 0 0] 42))=W0 at *;go_wp2
 go_loopw [5] (Tk1 W0 base (f AP L.length cP) (f AS vs.length cS) vs L.length G ln (fun i k=>zaB (G (D i k)))) (fun i _=>vs.length-(intOf i).toNat)
 case atStart=>exact ⟨0,W _,rfl,HO1.out.eq (fun _ _=>rfl) (fun i n k _ _=>(if_neg (jc i)).symm),U _ _⟩
 case round =>
  obtain ⟨m,hm,rfl,ho,hkb⟩:=hrel;have hnb:¬ some w.heap.size∈roles (f AP L.length cP) (f AS vs.length cS) vs:=fun q=>by have:=HNR.out _ q;omega
  have q3:=(hkb.cell (b:=w.heap.size) (o:=3) HRB.out.lt hnb).trans (O (k:=3) (v := f AS vs.length cS) HRB.out rfl);have HO:=Hd ho;have HK:=Hd hkb;clear ho hkb
  by_cases hlt:m<vs.length
  · obtain ⟨gS,capS,v,n,heS,hbS,hvi,hni,hcS⟩:=HO.out.outerAt hlt
    injection heS with heS1 heS2 heS3
    subst heS1 heS3
    obtain ⟨Ai,ci,hvie,-,-⟩:∃ A c,v = f A n c∧n≤c∧c≤maxLen:=by
     obtain ⟨css,h1,-⟩:=HO.out.subs m v n hvi hni
     exact zac h1
    subst hvie
    have hn24:n≤24:=HLN.out n (I hni)
    have hmi:(m:Int)<(vs.length:Int):=by omega
    have hm0:(0:Int)≤(m:Int):=by omega
    have HVI:=Hd hvi
    have HNI:=Hd hni
    clear hvi hni
    go_wp2
    clear hcS q3
    go_loopw [6] (Tk2 W0 base (f AP L.length cP) (f (some ⟨gS,0,u⟩) vs.length cS) vs L.length G ln (fun i k=>zaB (G (D i k))) m n) (fun i _=>n-(intOf i).toNat)
    case atStart=>exact ⟨0,W _,rfl,HO.out.eq (fun _ _=>rfl) (fun i n' k _ _=>by by_cases h:i<m <;> simp [h]),HK.out⟩
    case round =>
     clear HO HK
     obtain ⟨j,hj,rfl,ho,hkb⟩:=hrel
     have q3:=(hkb.cell (b:=w.heap.size) (o:=3) HRB.out.lt hnb).trans (O (k:=3) (v := f (some ⟨gS,0,u⟩) vs.length cS) HRB.out rfl)
     obtain ⟨gS',capS',v',n',heS,hbS',hvi',hni',hcS⟩:=ho.outerAt hlt
     injection heS with heS1 heS2 heS3
     injection heS1 with heS1
     injection heS1 with heS1
     subst heS1
     rw [HVI.out] at hvi'
     cases hvi'
     have HO:=Hd ho
     have HK:=Hd hkb
     have hji0:(0:Int)≤(j:Int):=by omega
     clear hni' hbS' heS2 heS3 hkb
     by_cases hjl:j<n
     · have hji:(j:Int)<(n:Int):=by omega
       obtain ⟨g,cap,cs,hve,hgb,hcl,hR,hcells,hfz⟩:=(ho.subs m _ n HVI.out HNI.out).at_ hjl
       have hFq:(if m<m∨(m=m∧j<j) then (zaB (G (D m j))).ticked else zaB (G (D m j)))=zaB (G (D m j)):=if_neg (by omega)
       have hR2:SbC wr (zb8 (roles (f AP L.length cP) (f (some ⟨gS,0,u⟩) vs.length cS) vs) wr) cs (if m<m∨(m=m∧j<j) then (zaB (G (D m j))).ticked else zaB (G (D m j))):=hR
       rw [hFq] at hR2
       clear hR
       obtain ⟨hl1,hl2,hl3⟩:=zfZ (HGG.out _ (HD.out m n j HNI.out hjl)).1
       obtain ⟨A,c,rfl,hcc,hrv⟩:=hR2
       injection hve with hve1 hve2 hve3
       subst hve1 hve3
       have hrg:=zdd (vP := f AP L.length cP) (vS := f (some ⟨gS,0,u⟩) vs.length cS) HVI.out
       have hgr:some g∈roles (f AP L.length cP) (f (some ⟨gS,0,u⟩) vs.length cS) vs:=I hrg
       have hSg:¬ (gS=g):=fun q=>by
        have:=ho.inj 1 (m+2) gS rfl (by rw [hrg,q];rfl)
        omega
       have hgw:g<w.heap.size:=HNR.out g (I hrg)
       have hbg:¬ (w.heap.size=g):=by omega
       have lbox:w.heap.size<wr.heap.size:=Y HRB.out.lt HK.out.size
       have lgS:gS<wr.heap.size:=by have:=HNR.out gS (I (i:=1) rfl);omega
       have lg:g<wr.heap.size:=by omega
       have c0:wr.cell? ⟨g,j*9,u⟩=some (a d (zaB (G (D m j))).pub):=hcells 0 _ rfl
       have c1:wr.cell? ⟨g,j*9+1,u⟩=some (a d (zaB (G (D m j))).rev):=hcells 1 _ rfl
       have c2:wr.cell? ⟨g,j*9+2,u⟩=some (C (zaB (G (D m j))).known):=hcells 2 _ rfl
       have c3:wr.cell? ⟨g,j*9+3,u⟩=some (a d (zaB (G (D m j))).state):=hcells 3 _ rfl
       have c4:wr.cell? ⟨g,j*9+4,u⟩=some (a d (zaB (G (D m j))).seq):=hcells 4 _ rfl
       have c5:wr.cell? ⟨g,j*9+5,u⟩=some (a d (zaB (G (D m j))).left):=hcells 5 _ rfl
       have c6:wr.cell? ⟨g,j*9+6,u⟩=some (a d (zaB (G (D m j))).lost):=hcells 6 _ rfl
       have c7:wr.cell? ⟨g,j*9+7,u⟩=some (C (zaB (G (D m j))).test):=hcells 7 _ rfl
       have c8:wr.cell? ⟨g,j*9+8,u⟩=some (f A (zaB (G (D m j))).vals.length c):=hcells 8 _ rfl
       have HFZ:=Hd hfz
       have HRV:=Hd hrv
       generalize hq:zaB (G (D m j))=q at *
       have HQ:=Hd hq
       have HTK:=Hd (show ∀ W',Below wr.heap.size wr W'→Calls Tryz.prog 22 #[J #[a d q.pub,a d q.rev,C q.known,a d q.state,a d q.seq,a d q.left,a d q.lost,C q.test,f A q.vals.length c]] W' (fun e w'=>∃ A' c',e = .returned (J #[a d q.ticked.pub,a d q.ticked.rev,C q.ticked.known,a d q.ticked.state,a d q.ticked.seq,a d q.ticked.left,a d q.ticked.lost,C q.ticked.test,f A' q.ticked.vals.length c'])∧q.ticked.vals.length≤c'∧c'≤maxLen∧w'.ownsRow W'.heap.size 73 6 (f A' q.ticked.vals.length c') q.ticked.vals.length (zaT q.ticked.vals)∧Below W'.heap.size W' w') from fun W' hW =>
        zlw q A c W'.heap.size W' (V _) (zgV (HRV.out.mono ValK.mono (S':=fun b=>b<W'.heap.size) (fun b z=>Y z.1 hW.size) (fun b z=>hW.block b z.1)) (fun b z=>z)) hl3 ⟨hl1,hl2⟩)
       clear hcells hfz hrv hq ho hFq
       go_upto_region 7 with fail
       refine zau (fun w'=>KB (fun b=>b=g) wr w') (fun w'=>Below wr.heap.size wr w') 14 (by kernel_rfl) ?_
       obtain ⟨wx,hwd0⟩:∃ x,x=wr.drew:=⟨_,rfl⟩
       have hS:KB (fun b=>b=g) wr wx:=by rw [hwd0];exact (U _ _).drew
       have hC:Below wr.heap.size wr wx:=by rw [hwd0];exact (Below.refl _ _).drew
       rw [← hwd0]
       clear hwd0
       have hz:=hC.size
       have hCC:=hC
       refine zam 0 rfl hS (fun _=>hCC) ?_
       refine zaS 1 ?_ rfl hS (fun _=>hCC) ?yld ?_
       case yld=>(intro wq hSw;have e:=(hSw.cell (o:=3) lbox hbg).trans q3;go_simp <;> with_reducible rfl)
       refine zam 2 rfl hS (fun _=>hCC) ?_
       refine zam 3 rfl hS (fun _=>hCC) ?_
       refine zaS 4 ?_ rfl hS (fun _=>hCC) ?yld ?_
       case yld=>(intro wq hSw;have e:=(hSw.cell (b:=gS) (o:=m) lgS hSg).trans hcS;go_simp <;> with_reducible rfl)
       refine zam 5 rfl hS (fun _=>hCC) ?_
       refine zam 6 rfl hS (fun _=>hCC) ?_
       refine zaS 7 ?_ rfl hS (fun _=>hCC) ?yld ?_
       case yld=>(intro wq hSw;have e:=(hSw.cell (o:=3) lbox hbg).trans q3;go_simp <;> with_reducible rfl)
       refine zam 8 rfl hS (fun _=>hCC) ?_
       refine zam 9 rfl hS (fun _=>hCC) ?_
       refine zaS 10 ?_ rfl hS (fun _=>hCC) ?yld ?_
       case yld=>(intro wq hSw;have e:=(hSw.cell (b:=gS) (o:=m) lgS hSg).trans hcS;go_simp <;> with_reducible rfl)
       refine zam 11 rfl hS (fun _=>hCC) ?_
       refine zam 12 rfl hS (fun _=>hCC) ?_
       refine zbO (i:=13) (v:=?_) rfl (by kernel_rfl) (by kernel_rfl) (by kernel_rfl) (by rfl) (by kernel_rfl) (by kernel_rfl) (fun _ _ _ h=>h) hS hCC (Or.inl ⟨by rfl,?yld⟩) ?_
       case yld=>(intro wq hSw;obtain ⟨e0,e1,e2,e3,e4,e5⟩:=kb6 hSw lg ⟨c0,c1,c2,c3,c4,c5⟩;obtain ⟨e6,e7,e8⟩:=kb3 hSw lg ⟨c6,c7,c8⟩;go_simp <;> with_reducible rfl)
       refine zad (rs:=[14]) (by kernel_rfl) (by simp) ?_
       refine Q (i:=14) rfl (fun K hK => ?_) ?_
       · skip
         go_simp
         go_at_call 22
         (with_reducible refine (HTK.out _ hC).mono ?_)
         rintro e wy ⟨A',c',rfl,hlc,hcm,hown,hbt⟩
         have hby:=hC.trans (hbt.mono hC.size)
         go_wp2_with fail
         refine hK.out _ _ (ja hby) (fun q=>M (show true=false from q)) (fun hS hCC => ?_)
         clear hK K
         obtain ⟨n0,n1,n2,n3,n4,n5⟩:=kb6 hby lg ⟨c0,c1,c2,c3,c4,c5⟩;obtain ⟨n6,n7,n8⟩:=kb3 hby lg ⟨c6,c7,c8⟩;obtain ⟨nf0,nf1,nf2,nf3,nf4,nf5⟩:=kf6 hby lg ⟨(HFZ.out (j*9)),(HFZ.out (j*9+1)),(HFZ.out (j*9+2)),(HFZ.out (j*9+3)),(HFZ.out (j*9+4)),(HFZ.out (j*9+5))⟩;obtain ⟨nf6,nf7,nf8⟩:=kf3 hby lg ⟨(HFZ.out (j*9+6)),(HFZ.out (j*9+7)),(HFZ.out (j*9+8))⟩
         have HFIN:=Hd (show OffR W0 base (f AP L.length cP) (f (some ⟨gS,0,u⟩) vs.length cS) vs L.length G ln (fun i' k'=>if i'<m∨(i'=m∧k'<j+1) then (zaB (G (D i' k'))).ticked else zaB (G (D i' k'))) (sets g wy (zaQ (j*9) (q.ticked.cells A' c'))) from
          ⟨((HO.out.below hby).putSub (x:=q.ticked) HVI.out HNI.out hjl ⟨A',c',rfl,⟨hlc,hcm⟩,zeh hown rfl (fun b z1 z2=>(HO.out.below hC).new z1 z2)⟩).eq (fun _ _=>rfl) (fun i n' k _ _=>by
           show (if i=m∧k=j then q.ticked else if i<m∨(i=m∧k<j) then (zaB (G (D i k))).ticked else zaB (G (D i k)))=_
           by_cases h:i=m∧k=j
           · obtain ⟨rfl,rfl⟩:=h
             rw [if_pos ⟨rfl,rfl⟩,if_pos (.inr ⟨rfl,jb _⟩),HQ.out]
           · rw [if_neg h]
             by_cases h2:i<m∨(i=m∧k<j)
             · rw [if_pos h2,if_pos (by omega)]
             · rw [if_neg h2,if_neg (by omega)]),
            (HK.out.thenB hby).trans (zeJ (X:=fun b=>some b∈roles (f AP L.length cP) (f (some ⟨gS,0,u⟩) vs.length cS) vs) hgr _ _)⟩)
         clear hown hbt
         refine zam 15 rfl hS (fun q=>M (show true=false from q)) ?_
         refine zad (rs:=[16]) (by kernel_rfl) (by simp) ?_
         refine Q (i:=16) rfl (fun K hK => ?_) ?_
         · skip
           go_simp
           refine hK.out _ _ (H (H (H (H (H (H (H (H (H (hS) (.inl rfl) _ _) (.inl rfl) _ _) (.inl rfl) _ _) (.inl rfl) _ _) (.inl rfl) _ _) (.inl rfl) _ _) (.inl rfl) _ _) (.inl rfl) _ _) (.inl rfl) _ _) (fun q=>M (show true=false from q)) (fun hS hCC => ?_)
           clear hK K
           refine zaR (by kernel_rfl) ?_ _
           have hf:=HFIN.out
           simp only [sets,zaQ,SbM.cells,jf,jg,jd,je] at hf
           clear n0 nf0 c0 n1 nf1 c1 n2 nf2 c2 n3 nf3 c3 n4 nf4 c4 n5 nf5 c5 n6 nf6 c6 n7 nf7 c7 n8 nf8 c8
           go_wp2
           go_roundw
           case rel=>exact ⟨j+1,by omega,by go_num,hf⟩
           case measure=>simp [intOf];omega
         exact P
       exact P
     · obtain rfl:j=n:=by omega
       clear hji0 hjl
       go_wp2
       go_roundw
       case rel =>
        refine ⟨m+1,by omega,by go_num,HO.out.eq (fun _ _=>rfl) (fun i n' k hi hk => ?_),HK.out⟩
        by_cases h:i=m
        · subst h
          have hnn:n'=j:=by have:=HNI.out;rw [hi] at this;exact Option.some.inj this
          rw [if_pos (.inr ⟨rfl,by omega⟩),if_pos (jb _)]
        · by_cases h2:i<m
          · rw [if_pos (.inl h2),if_pos (by omega)]
          · rw [if_neg (by omega),if_neg (by omega)]
       case measure=>simp [intOf];omega
  · obtain rfl:m=vs.length:=by omega
    have hst0:OpbR W0 base (f AP L.length cP) (f AS vs.length cS) vs st L G D ln 0 wr:=⟨HO.out.eq (fun k _=>(if_neg (jc k)).symm) (fun i n k hi hk=>by
     have hi2:i<vs.length:=by have:=(List.getElem?_eq_some_iff.1 hi).1;have:=HO.out.len;omega
     rw [if_pos hi2,if_neg (jc _)]),HK.out⟩
    have HST0:=Hd hst0
    clear hst0 HO HK hlt
    go_wp2
    clear q3
    go_loopw [7] (Pb3 W0 base (f AP L.length cP) (f AS vs.length cS) vs st L G D ln) (fun i _=>L.length-(intOf i).toNat)
    case atStart=>exact ⟨0,W _,rfl,HST0.out⟩
    case round =>
     clear HST0
     obtain ⟨m,hm,rfl,ho,hkb⟩:=hrel
     have q0:=(hkb.cell (b:=w.heap.size) (o:=0) HRB.out.lt hnb).trans (O (k:=0) (v := f A7 L.length c7) HRB.out rfl)
     have q1:=(hkb.cell (b:=w.heap.size) (o:=1) HRB.out.lt hnb).trans (O (k:=1) (v := f A8 n8 c8) HRB.out rfl)
     have q2:=(hkb.cell (b:=w.heap.size) (o:=2) HRB.out.lt hnb).trans (O (k:=2) (v := f AP L.length cP) HRB.out rfl)
     have q3:=(hkb.cell (b:=w.heap.size) (o:=3) HRB.out.lt hnb).trans (O (k:=3) (v := f AS vs.length cS) HRB.out rfl)
     have HO:=Hd ho
     have HK:=Hd hkb
     clear ho hkb
     by_cases hml:m<L.length
     · have hmi:(m:Int)<(L.length:Int):=by omega
       have hm0:(0:Int)≤(m:Int):=by omega
       have hdm:decide ((m:Int)<(L.length:Int))=true:=by simpa using hmi
       obtain ⟨b,o,cs,e,rfl,hbB,he,-,⟨A,c,rfl,hec,hcm,hsr⟩,hat⟩:=HLL.out.at_ hml
       have hEe:=HE.out e (I he)
       have hval:za7 st L m=e.sigs.map fun z=>bitP st e.relay z.toNat:=by unfold za7;rw [he]
       have hbW:b<W0.heap.size:=by have:=HSZ.out;omega
       have hbr:¬ some b∈roles (f AP L.length cP) (f AS vs.length cS) vs:=HO.out.old (by omega)
       have hpc:∀ j v,(zd7 (e,A,c))[j]? = some v→wr.cell? ⟨b,o+m*5+j,u⟩=some v:=fun j v hv=>(HK.out.cell hbW hbr).trans (hat j v hv)
       have e0:wr.cell? ⟨b,o+m*5,u⟩=some (a d (e.relay:Int)):=hpc 0 _ rfl
       have e1:=hpc 1 _ rfl
       have e2:=hpc 2 _ rfl
       have e3:=hpc 3 _ rfl
       have e4:=hpc 4 _ rfl
       have hx:=zaa wr (E #[a d (e.relay:Int),a d (e.set:Int),a d e.first,a d e.max,f A e.sigs.length c] 97)
       have RX:Row (wr.alloc (E #[a d (e.relay:Int),a d (e.set:Int),a d e.first,a d e.max,f A e.sigs.length c] 97)) wr.heap.size 97 [a d (e.relay:Int),a d (e.set:Int),a d e.first,a d e.max,f A e.sigs.length c]:=Z _ [a d (e.relay:Int),a d (e.set:Int),a d e.first,a d e.max,f A e.sigs.length c] rfl
       have HEE:=Hd hEe
       have HHE:=Hd he
       have HSR:=Hd hsr
       have HVL:=Hd hval
       have HX:=Hd hx
       have HRX:=Hd RX
       clear hat hpc hEe he hsr hval hx RX hec hcm
       go_upto_region 12 with fail
       clear e0 e1 e2 e3 e4
       generalize wr.alloc (E #[a d (e.relay:Int),a d (e.set:Int),a d e.first,a d e.max,f A e.sigs.length c] 97)=w4 at *
       have HO4:=Hd (HO.out.below HX.out)
       have HK4:=Hd (HK.out.thenB HX.out)
       generalize hgx:wr.heap.size=gx at *
       obtain ⟨r0,-,-,-,r4⟩:=kr5 HRX.out
       have hl4:=HRX.out.lt
       go_wp2
       clear r0 r4
       go_loopw [9,10] (VlR w4 (za7 st L m)) (fun _ i _=>e.sigs.length-(intOf i).toNat)
       case atStart=>exact ⟨0,W _,rfl,World.ownsRow_nil _ _ _ _,Below.refl _ _⟩
       case round =>
        obtain ⟨j,hj,rfl,hown,hbel⟩:=hrel
        have hvl:(za7 st L m).length=e.sigs.length:=by rw [HVL.out,ji]
        rw [hvl] at hj
        have r0:=(hbel.cell (p:=⟨gx,0,u⟩) hl4).trans (O (k:=0) (v := a d (e.relay:Int)) HRX.out rfl)
        have r4:=(hbel.cell (p:=⟨gx,4,u⟩) hl4).trans (O (k:=4) (v := f A e.sigs.length c) HRX.out rfl)
        have HOV:=Hd hown
        have HBV:=Hd hbel
        clear hown hbel
        by_cases hjl:j<e.sigs.length
        · obtain ⟨b',o',cs',z,rfl,hbB',hz',-,rfl,hat'⟩:=HSR.out.at_ hjl
          obtain ⟨zn,rfl⟩:∃ zn:Nat,z=(zn:Int):=⟨z.toNat,by have:=(HEE.out.2.2 z (I hz')).1;omega⟩
          have hzn:zn≤900:=by have:=(HEE.out.2.2 _ (I hz')).2;omega
          have hbr':¬ some b'∈roles (f AP L.length cP) (f AS vs.length cS) vs:=HO.out.old (by omega)
          have hbx:b'<gx:=by have:=HK.out.size;have:=HSZ.out;omega
          have s0:wr.cell? ⟨b',o'+j,u⟩=some (a d (zn:Int)):=(HBV.out.cell (p:=⟨b',o'+j,u⟩) (by show b'<_;omega)).trans ((HX.out.cell (p:=⟨b',o'+j,u⟩) (by show b'<_;omega)).trans ((HK.out.cell (by have:=HSZ.out;omega) hbr').trans (by simpa using hat' 0 _ rfl)))
          have hjv:(za7 st L m)[j]? = some (bitP st e.relay zn):=by rw [HVL.out,List.getElem?_map,hz'];rfl
          have HJV:=Hd hjv
          have hji:(j:Int)<(e.sigs.length:Int):=by omega
          have hj0:(0:Int)≤(j:Int):=by omega
          obtain ⟨AV,cV,rfl,-,-⟩:=zac HOV.out
          have hwv:=HBV.out.size
          have hown4:∀ q,(f AV j cV).ownBlock=some q→w4.heap.size≤q:=fun q h=>(HOV.out.lt q h).1
          have hnx:∀ q,q<w4.heap.size→¬ ((f AV j cV).ownBlock=some q):=fun q hq h=>by have:=hown4 q h;omega
          have lgx:gx<wr.heap.size:=by omega
          have lb':b'<wr.heap.size:=by omega
          have hb4:b'<w4.heap.size:=by omega
          have he24:=HEE.out.2.1
          have her:=HEE.out.1
          clear hat' hz' hjv hbr'
          go_upto_region 16 with fail
          refine zau (fun w'=>KB (fun b=>(f AV j cV).ownBlock=some b) wr w') (fun w'=>Below wr.heap.size wr w') 12 (by kernel_rfl) ?_
          obtain ⟨wx,hwd0⟩:∃ x,x=wr.drew:=⟨_,rfl⟩
          have hS:KB (fun b=>(f AV j cV).ownBlock=some b) wr wx:=by rw [hwd0];exact (U _ _).drew
          have hC:Below wr.heap.size wr wx:=by rw [hwd0];exact (Below.refl _ _).drew
          rw [← hwd0]
          clear hwd0
          have hz:=hC.size
          have hCC:=hC
          refine zam 0 rfl hS (fun _=>hCC) ?_
          refine zam 1 rfl hS (fun _=>hCC) ?_
          refine zam 2 rfl hS (fun _=>hCC) ?_
          refine zaS 3 ?_ rfl hS (fun _=>hCC) ?yld ?_
          case yld=>(intro wq hSw;have e:=(hSw.cell (o:=0) lgx (hnx _ hl4)).trans r0;go_simp <;> with_reducible rfl)
          refine zam 4 rfl hS (fun _=>hCC) ?_
          refine zaS 5 ?_ rfl hS (fun _=>hCC) ?yld ?_
          case yld=>(intro wq hSw;have e:=(hSw.cell (o:=4) lgx (hnx _ hl4)).trans r4;go_simp <;> with_reducible rfl)
          refine zam 6 rfl hS (fun _=>hCC) ?_
          refine zam 7 rfl hS (fun _=>hCC) ?_
          refine zaS 8 ?_ rfl hS (fun _=>hCC) ?yld ?_
          case yld=>(intro wq hSw;have e:=(hSw.cell (b:=b') (o:=o'+j) lb' (hnx _ hb4)).trans s0;go_simp <;> with_reducible rfl)
          refine zad (rs:=[9]) (by kernel_rfl) (by simp) ?_
          refine Q (i:=9) rfl (fun K hK => ?_) ?_
          · skip
            go_simp
            go_at_call 9
            (with_reducible refine (zlG st hst e.relay zn (by omega) (by omega) _).mono ?_)
            rintro e9 w9 ⟨rfl,rfl⟩
            go_wp2_with fail
            refine hK.out _ _ (hS) (fun _=>hCC) (fun hS hCC => ?_)
            have hCC:=hCC rfl
            have hC:=hCC
            clear hK K
            refine zad (rs:=[10]) (by kernel_rfl) (by simp) ?_
            refine Q (i:=10) rfl (fun K hK => ?_) ?_
            · skip
              go_simp
              go_at_call 12
              (with_reducible refine (zf9 _ _).mono ?_)
              rintro e9 wy ⟨rfl,hbt⟩
              have hC1:=hC.trans (hbt.mono hC.size)
              go_wp2_with fail
              refine hK.out _ _ (ja hC1) (fun _=>hC1) (fun hS hCC => ?_)
              have hCC:=hCC rfl
              have hC:=hCC
              clear hK K
              clear hbt hC1
              refine zad (rs:=[11]) (by kernel_rfl) (by simp) ?_
              refine Q (i:=11) rfl (fun K hK => ?_) ?_
              · skip
                go_simp
                refine hK.out _ _ (KB.alloc hS _) (fun _=>hC.alloc hC.size _) (fun hS hCC => ?_)
                have hCC:=hCC rfl
                have hC:=hCC
                clear hK K
                have HRZV:=Hd (Z (w:=wy) (t := 73) wy.heap.size [a d 1,a d (truN (bitP st e.relay zn)),.string ⟨#[]⟩,a d 0,a d 0,a d 0] rfl)
                generalize wy.alloc (E #[a d 1,a d (truN (bitP st e.relay zn)),.string ⟨#[]⟩,a d 0,a d 0,a d 0] 73)=wz at *
                refine zad (rs:=[12]) (by kernel_rfl) (by simp) ?_
                refine Q (i:=12) rfl (fun K hK => ?_) ?_
                · skip
                  have HC1:=Hd hC
                  refine zai (w:=wz) _ _ 76 rfl rfl Tryz.underlying76 HTV.out.1 HTV.out.2.1 HTV.out.2.2.1 HTV.out.2.2.2 rfl (by decide) rfl (zab HOV.out hC (V _)) rfl (zdW HRZV.out rfl) (by simp [Value.oneCell']) (by unfold maxLen;omega) (by omega) (by have:=hC.size;omega) ?_
                  intro v9 w9 hown9 hg9 hv9
                  refine hK.out _ _ (KB.grow hS hg9 fun b q => .inl q) (fun q=>M (show true=false from q)) (fun hS hCC => ?_)
                  clear hK K
                  have HO9:=Hd (show w9.ownsRow w4.heap.size 73 6 v9 (j+1) (zaT ((za7 st L m).take (j+1))) from by
                   rw [List.take_add_one,HJV.out]
                   have h:=hown9
                   unfold zaT at *
                   rw [List.flatMap_append]
                   simpa [valC] using h)
                  have HB9:=Hd (HBV.out.trans ((HC1.out.mono hwv).trans (zaC hg9 (by have:=HC1.out.size;omega) fun q hq=>hown4 q hq)))
                  clear hown9 hg9 hv9
                  refine zam 13 rfl hS (fun q=>M (show true=false from q)) ?_
                  refine zaR (by kernel_rfl) ?_ _
                  obtain ⟨A9,c9,rfl,-,-⟩:=zac HO9.out
                  go_wp2
                  go_roundw
                  case rel=>exact ⟨j+1,by rw [hvl];omega,by go_num,HO9.out,HB9.out⟩
                  case measure=>simp [intOf];omega
                exact P
              exact P
            exact P
          exact P
        · obtain rfl:j=e.sigs.length:=by omega
          have hvv:(za7 st L m).take e.sigs.length=za7 st L m:=List.take_of_length_le (by omega)
          have hown:=HOV.out
          rw [hvv] at hown
          obtain ⟨AV,cV,rfl,hVc,hVm⟩:=zac hown
          have HO5:=Hd (HO4.out.below HBV.out)
          have HK5:=Hd (HK4.out.thenB HBV.out)
          have hsw:=HK5.out.size
          have lbox:w.heap.size<wr.heap.size:=Y HRB.out.lt hsw
          have q2:=(HK5.out.cell (b:=w.heap.size) (o:=2) HRB.out.lt hnb).trans (O (k:=2) (v := f AP L.length cP) HRB.out rfl)
          obtain ⟨g,cap,cs,hve,hgb,hcl,hR,hcells,hfz⟩:=HO5.out.pubs.at_ hml
          have hR2:PbC wr (zb8 (roles (f AP L.length cP) (f AS vs.length cS) vs) wr) cs (if m<m then (G m).next (za7 st L m) else G m):=hR
          rw [if_neg (Nat.lt_irrefl m)] at hR2
          obtain ⟨A1,c1,rfl,hcc,hrv⟩:=hR2
          injection hve with hve1 hve2 hve3
          subst hve1 hve3
          obtain ⟨hGd,hGp⟩:=HGG.out m hml
          have c0:wr.cell? ⟨g,m*13,u⟩=some (a d (G m).pub):=hcells 0 _ rfl
          have c101:wr.cell? ⟨g,m*13+1,u⟩=some (a d (G m).first):=hcells 1 _ rfl
          have c2:wr.cell? ⟨g,m*13+2,u⟩=some (a d (G m).max):=hcells 2 _ rfl
          have c3:wr.cell? ⟨g,m*13+3,u⟩=some (a d (G m).rev):=hcells 3 _ rfl
          have c4:wr.cell? ⟨g,m*13+4,u⟩=some (C (G m).started):=hcells 4 _ rfl
          have c5:wr.cell? ⟨g,m*13+5,u⟩=some (a d (G m).state):=hcells 5 _ rfl
          have c6:wr.cell? ⟨g,m*13+6,u⟩=some (a d (G m).seq):=hcells 6 _ rfl
          have c7:wr.cell? ⟨g,m*13+7,u⟩=some (a d (G m).since):=hcells 7 _ rfl
          have c8:wr.cell? ⟨g,m*13+8,u⟩=some (a d (G m).gap):=hcells 8 _ rfl
          have c9:wr.cell? ⟨g,m*13+9,u⟩=some (a d 0):=hcells 9 _ rfl
          have c10:wr.cell? ⟨g,m*13+10,u⟩=some (a d 0):=hcells 10 _ rfl
          have c11:wr.cell? ⟨g,m*13+11,u⟩=some (a d 0):=hcells 11 _ rfl
          have c12:wr.cell? ⟨g,m*13+12,u⟩=some (f A1 (G m).vals.length c1):=hcells 12 _ rfl
          have hgr:some g∈roles (f (some ⟨g,0,u⟩) L.length cP) (f AS vs.length cS) vs:=I (i:=0) rfl
          have hgw:g<w.heap.size:=HNR.out g hgr
          have lg:g<wr.heap.size:=by omega
          have HFZ:=Hd hfz
          have HRV:=Hd hrv
          have HGD:=Hd hGd
          have HGP:=Hd hGp
          have hv24:(za7 st L m).length≤24:=by have:=HEE.out.2.1;omega
          have hOW:=Hd hown
          generalize hp:G m=p at *
          generalize hbs:za7 st L m=bs at *
          have HP:=Hd hp
          have HBS:=Hd hbs
          have HPS:=Hd (show Calls Tryz.prog 23 #[J #[a d p.pub,a d p.first,a d p.max,a d p.rev,C p.started,a d p.state,a d p.seq,a d p.since,a d p.gap,a d 0,a d 0,a d 0,f A1 p.vals.length c1],f AV e.sigs.length cV,J #[a d 0,a d 0,a d 0]] wr (fun e9 w'=>∃ A' c' mv,e9 = .returned (.tuple #[J #[a d (p.next bs).pub,a d (p.next bs).first,a d (p.next bs).max,a d (p.next bs).rev,C (p.next bs).started,a d (p.next bs).state,a d (p.next bs).seq,a d (p.next bs).since,a d (p.next bs).gap,a d 0,a d 0,a d 0,f A' (p.next bs).vals.length c'],mv])∧(p.next bs).vals.length≤c'∧c'≤maxLen∧w'.ownsRow wr.heap.size 73 6 (f A' (p.next bs).vals.length c') (p.next bs).vals.length (zaT (p.next bs).vals)∧Below wr.heap.size wr w' ∧
           ((p.due bs=0∧mv = f u 0 0)∨(p.due bs≠0∧∃ gm Am cm,mv = f (some ⟨gm,0,u⟩) 1 1∧Row w' gm 106 (msgC (p.next bs).pub (3*(p.next bs).gap+1) (p.next bs).state (p.next bs).seq (p.next bs).rev Am (p.next bs).vals.length cm)∧wr.heap.size≤gm∧w'.ownsRow wr.heap.size 73 6 (f Am (p.next bs).vals.length cm) (p.next bs).vals.length (zaT (p.next bs).vals)))) from by
           have h:=zkb p HGD.out (by omega) A1 AV c1 cV wr.heap.size bs wr (V _) (zgV HRV.out (fun b z=>z.1)) (by rw [hvl];have h2:=zdr hOW.out (by rw [hvl]);exact h2) hv24
           rw [hvl] at h
           refine h.mono ?_
           rintro e9 w9 (⟨hd,A',c',rfl,h1,h2,h3,h4⟩ | ⟨hd,A',c',gm,Am,cm,rfl,h1,h2,h3,h5,h6,h7,h8,h9,h4⟩)
           · exact ⟨A',c',_,rfl,h1,h2,h3,h4,.inl ⟨hd,rfl⟩⟩
           · exact ⟨A',c',_,rfl,h1,h2,h3,h4,.inr ⟨hd,gm,Am,cm,rfl,h5,h6,h9⟩⟩)
          clear hcells hfz hrv hGd hGp hown hR hp hbs
          go_wp2_with fail
          refine HPS.out.mono ?_
          rintro e9 w5 ⟨A',c',mv,rfl,hlc,hcm2,hown5,hb5,hmv⟩
          have hs5:=hb5.size
          have HB5:=Hd hb5
          have HO6:=Hd ((HO5.out.below hb5).below (zaa w5 (E #[a d (p.next bs).pub,a d (p.next bs).first,a d (p.next bs).max,a d (p.next bs).rev,C (p.next bs).started,a d (p.next bs).state,a d (p.next bs).seq,a d (p.next bs).since,a d (p.next bs).gap,a d 0,a d 0,a d 0,f A' (p.next bs).vals.length c'] 93)))
          have HK6:=Hd ((HK5.out.thenB hb5).alloc (E #[a d (p.next bs).pub,a d (p.next bs).first,a d (p.next bs).max,a d (p.next bs).rev,C (p.next bs).started,a d (p.next bs).state,a d (p.next bs).seq,a d (p.next bs).since,a d (p.next bs).gap,a d 0,a d 0,a d 0,f A' (p.next bs).vals.length c'] 93))
          have RP:Row (w5.alloc (E #[a d (p.next bs).pub,a d (p.next bs).first,a d (p.next bs).max,a d (p.next bs).rev,C (p.next bs).started,a d (p.next bs).state,a d (p.next bs).seq,a d (p.next bs).since,a d (p.next bs).gap,a d 0,a d 0,a d 0,f A' (p.next bs).vals.length c'] 93)) w5.heap.size 93 [a d (p.next bs).pub,a d (p.next bs).first,a d (p.next bs).max,a d (p.next bs).rev,C (p.next bs).started,a d (p.next bs).state,a d (p.next bs).seq,a d (p.next bs).since,a d (p.next bs).gap,a d 0,a d 0,a d 0,f A' (p.next bs).vals.length c']:=Z _ [a d (p.next bs).pub,a d (p.next bs).first,a d (p.next bs).max,a d (p.next bs).rev,C (p.next bs).started,a d (p.next bs).state,a d (p.next bs).seq,a d (p.next bs).since,a d (p.next bs).gap,a d 0,a d 0,a d 0,f A' (p.next bs).vals.length c'] rfl
          have hsbx:=zaa w5 (E #[a d (p.next bs).pub,a d (p.next bs).first,a d (p.next bs).max,a d (p.next bs).rev,C (p.next bs).started,a d (p.next bs).state,a d (p.next bs).seq,a d (p.next bs).since,a d (p.next bs).gap,a d 0,a d 0,a d 0,f A' (p.next bs).vals.length c'] 93)
          have HSB:=Hd hsbx
          have hP5:PbC w5 (zb8 (roles (f (some ⟨g,0,u⟩) L.length cP) (f AS vs.length cS) vs) w5) [a d (p.next bs).pub,a d (p.next bs).first,a d (p.next bs).max,a d (p.next bs).rev,C (p.next bs).started,a d (p.next bs).state,a d (p.next bs).seq,a d (p.next bs).since,a d (p.next bs).gap,a d 0,a d 0,a d 0,f A' (p.next bs).vals.length c'] (p.next bs):=⟨A',c',rfl,⟨hlc,hcm2⟩,zeh hown5 rfl (fun b z1 z2=>HO5.out.new z1 z2)⟩
          have hP6:PbC (w5.alloc (E #[a d (p.next bs).pub,a d (p.next bs).first,a d (p.next bs).max,a d (p.next bs).rev,C (p.next bs).started,a d (p.next bs).state,a d (p.next bs).seq,a d (p.next bs).since,a d (p.next bs).gap,a d 0,a d 0,a d 0,f A' (p.next bs).vals.length c'] 93)) (zb8 (roles (f (some ⟨g,0,u⟩) L.length cP) (f AS vs.length cS) vs) (w5.alloc (E #[a d (p.next bs).pub,a d (p.next bs).first,a d (p.next bs).max,a d (p.next bs).rev,C (p.next bs).started,a d (p.next bs).state,a d (p.next bs).seq,a d (p.next bs).since,a d (p.next bs).gap,a d 0,a d 0,a d 0,f A' (p.next bs).vals.length c'] 93))) [a d (p.next bs).pub,a d (p.next bs).first,a d (p.next bs).max,a d (p.next bs).rev,C (p.next bs).started,a d (p.next bs).state,a d (p.next bs).seq,a d (p.next bs).since,a d (p.next bs).gap,a d 0,a d 0,a d 0,f A' (p.next bs).vals.length c'] (p.next bs):=PbC.mono _ _ _ _ _ _ (fun b z=>⟨Y z.1 hsbx.size,z.2⟩) (fun b z=>hsbx.block b z.1) hP5
          have hsz6:w5.heap.size<(w5.alloc (E #[a d (p.next bs).pub,a d (p.next bs).first,a d (p.next bs).max,a d (p.next bs).rev,C (p.next bs).started,a d (p.next bs).state,a d (p.next bs).seq,a d (p.next bs).since,a d (p.next bs).gap,a d 0,a d 0,a d 0,f A' (p.next bs).vals.length c'] 93)).heap.size:=by simp
          have n0:=((hsbx.cell (p:=⟨g,m*13,u⟩) (by show g<_;omega)).trans (hb5.cell (p:=⟨g,m*13,u⟩) lg)).trans c0
          have nf0:=((hsbx.frozen (p:=⟨g,m*13,u⟩) (by show g<_;omega)).trans (hb5.frozen (p:=⟨g,m*13,u⟩) lg)).trans (HFZ.out (m*13))
          have n1:=((hsbx.cell (p:=⟨g,m*13+1,u⟩) (by show g<_;omega)).trans (hb5.cell (p:=⟨g,m*13+1,u⟩) lg)).trans c101
          have nf1:=((hsbx.frozen (p:=⟨g,m*13+1,u⟩) (by show g<_;omega)).trans (hb5.frozen (p:=⟨g,m*13+1,u⟩) lg)).trans (HFZ.out (m*13+1))
          have n2:=((hsbx.cell (p:=⟨g,m*13+2,u⟩) (by show g<_;omega)).trans (hb5.cell (p:=⟨g,m*13+2,u⟩) lg)).trans c2
          have nf2:=((hsbx.frozen (p:=⟨g,m*13+2,u⟩) (by show g<_;omega)).trans (hb5.frozen (p:=⟨g,m*13+2,u⟩) lg)).trans (HFZ.out (m*13+2))
          have n3:=((hsbx.cell (p:=⟨g,m*13+3,u⟩) (by show g<_;omega)).trans (hb5.cell (p:=⟨g,m*13+3,u⟩) lg)).trans c3
          have nf3:=((hsbx.frozen (p:=⟨g,m*13+3,u⟩) (by show g<_;omega)).trans (hb5.frozen (p:=⟨g,m*13+3,u⟩) lg)).trans (HFZ.out (m*13+3))
          have n4:=((hsbx.cell (p:=⟨g,m*13+4,u⟩) (by show g<_;omega)).trans (hb5.cell (p:=⟨g,m*13+4,u⟩) lg)).trans c4
          have nf4:=((hsbx.frozen (p:=⟨g,m*13+4,u⟩) (by show g<_;omega)).trans (hb5.frozen (p:=⟨g,m*13+4,u⟩) lg)).trans (HFZ.out (m*13+4))
          have n5:=((hsbx.cell (p:=⟨g,m*13+5,u⟩) (by show g<_;omega)).trans (hb5.cell (p:=⟨g,m*13+5,u⟩) lg)).trans c5
          have nf5:=((hsbx.frozen (p:=⟨g,m*13+5,u⟩) (by show g<_;omega)).trans (hb5.frozen (p:=⟨g,m*13+5,u⟩) lg)).trans (HFZ.out (m*13+5))
          have n6:=((hsbx.cell (p:=⟨g,m*13+6,u⟩) (by show g<_;omega)).trans (hb5.cell (p:=⟨g,m*13+6,u⟩) lg)).trans c6
          have nf6:=((hsbx.frozen (p:=⟨g,m*13+6,u⟩) (by show g<_;omega)).trans (hb5.frozen (p:=⟨g,m*13+6,u⟩) lg)).trans (HFZ.out (m*13+6))
          have n7:=((hsbx.cell (p:=⟨g,m*13+7,u⟩) (by show g<_;omega)).trans (hb5.cell (p:=⟨g,m*13+7,u⟩) lg)).trans c7
          have nf7:=((hsbx.frozen (p:=⟨g,m*13+7,u⟩) (by show g<_;omega)).trans (hb5.frozen (p:=⟨g,m*13+7,u⟩) lg)).trans (HFZ.out (m*13+7))
          have n8:=((hsbx.cell (p:=⟨g,m*13+8,u⟩) (by show g<_;omega)).trans (hb5.cell (p:=⟨g,m*13+8,u⟩) lg)).trans c8
          have nf8:=((hsbx.frozen (p:=⟨g,m*13+8,u⟩) (by show g<_;omega)).trans (hb5.frozen (p:=⟨g,m*13+8,u⟩) lg)).trans (HFZ.out (m*13+8))
          have n9:=((hsbx.cell (p:=⟨g,m*13+9,u⟩) (by show g<_;omega)).trans (hb5.cell (p:=⟨g,m*13+9,u⟩) lg)).trans c9
          have nf9:=((hsbx.frozen (p:=⟨g,m*13+9,u⟩) (by show g<_;omega)).trans (hb5.frozen (p:=⟨g,m*13+9,u⟩) lg)).trans (HFZ.out (m*13+9))
          have n10:=((hsbx.cell (p:=⟨g,m*13+10,u⟩) (by show g<_;omega)).trans (hb5.cell (p:=⟨g,m*13+10,u⟩) lg)).trans c10
          have nf10:=((hsbx.frozen (p:=⟨g,m*13+10,u⟩) (by show g<_;omega)).trans (hb5.frozen (p:=⟨g,m*13+10,u⟩) lg)).trans (HFZ.out (m*13+10))
          have n11:=((hsbx.cell (p:=⟨g,m*13+11,u⟩) (by show g<_;omega)).trans (hb5.cell (p:=⟨g,m*13+11,u⟩) lg)).trans c11
          have nf11:=((hsbx.frozen (p:=⟨g,m*13+11,u⟩) (by show g<_;omega)).trans (hb5.frozen (p:=⟨g,m*13+11,u⟩) lg)).trans (HFZ.out (m*13+11))
          have n12:=((hsbx.cell (p:=⟨g,m*13+12,u⟩) (by show g<_;omega)).trans (hb5.cell (p:=⟨g,m*13+12,u⟩) lg)).trans c12
          have nf12:=((hsbx.frozen (p:=⟨g,m*13+12,u⟩) (by show g<_;omega)).trans (hb5.frozen (p:=⟨g,m*13+12,u⟩) lg)).trans (HFZ.out (m*13+12))
          have q25:=(hb5.cell (p:=⟨w.heap.size,2,u⟩) lbox).trans q2
          have q26:=(hsbx.cell (p:=⟨w.heap.size,2,u⟩) (by show w.heap.size<_;omega)).trans q25
          go_upto_region 18 with fail
          clear c0 c101 c2 c3 c4 c5 c6 c7 c8 c9 c10 c11 c12
          generalize w5.alloc (E #[a d (p.next bs).pub,a d (p.next bs).first,a d (p.next bs).max,a d (p.next bs).rev,C (p.next bs).started,a d (p.next bs).state,a d (p.next bs).seq,a d (p.next bs).since,a d (p.next bs).gap,a d 0,a d 0,a d 0,f A' (p.next bs).vals.length c'] 93)=w6 at *
          obtain ⟨b0,b1,b2,b3,b4,b5,b6,b7,b8,b9,b10,b11,b12⟩:=kr13 RP
          have HP6:=Hd hP6
          clear RP hP5 hP6 hsbx q2 q25 hown5
          have hgn:¬ (w5.heap.size=g):=by omega
          have hgn':¬ (g=w5.heap.size):=fun q=>hgn q.symm
          have hbxg:¬ (w.heap.size=g):=by omega
          go_cut [] from 100 to 104 (fun wx=>OffS wx base (f (some ⟨g,0,u⟩) L.length cP) (f AS vs.length cS) vs L.length (fun n=>if n<m+1 then (G n).next (za7 st L n) else G n) ln (fun i k=>if D i k<m then zaB ((G (D i k)).next (za7 st L (D i k))) else (zaB (G (D i k))).ticked)∧KB (fun b=>b=g) w6 wx)
          case first =>
           have hf:=Hd (show OffS (sets g w6 (zaQ (m*13) [a d (p.next bs).pub,a d (p.next bs).first,a d (p.next bs).max,a d (p.next bs).rev,C (p.next bs).started,a d (p.next bs).state,a d (p.next bs).seq,a d (p.next bs).since,a d (p.next bs).gap,a d 0,a d 0,a d 0,f A' (p.next bs).vals.length c'])) base (f (some ⟨g,0,u⟩) L.length cP) (f AS vs.length cS) vs L.length (fun n=>if n<m+1 then (G n).next (za7 st L n) else G n) ln (fun i k=>if D i k<m then zaB ((G (D i k)).next (za7 st L (D i k))) else (zaB (G (D i k))).ticked)∧KB (fun b=>b=g) w6 (sets g w6 (zaQ (m*13) [a d (p.next bs).pub,a d (p.next bs).first,a d (p.next bs).max,a d (p.next bs).rev,C (p.next bs).started,a d (p.next bs).state,a d (p.next bs).seq,a d (p.next bs).since,a d (p.next bs).gap,a d 0,a d 0,a d 0,f A' (p.next bs).vals.length c'])) from
            ⟨(HO6.out.putPub (x:=p.next bs) hml HP6.out).eq (fun n hn=>by
             show (if n=m then p.next bs else if n<m then (G n).next (za7 st L n) else G n)=_
             by_cases h:n=m
             · subst h
               rw [if_pos rfl,if_pos (jb _),HP.out,HBS.out]
             · rw [if_neg h]
               by_cases h2:n<m
               · rw [if_pos h2,if_pos (by omega)]
               · rw [if_neg h2,if_neg (by omega)]) (fun _ _ _ _ _=>rfl),zeJ (X:=fun b=>b=g) rfl _ _⟩)
           go_wp2
           go_meet
           have hf2:=hf.out
           simp only [sets,zaQ,jf,jg,jd,je] at hf2
           exact hf2
          case rest =>
           obtain ⟨ho7,hk7⟩:=hcut
           have HO7:=Hd ho7
           have HK7:=Hd hk7
           clear ho7 hk7 n0 nf0 b0 n1 nf1 b1 n2 nf2 b2 n3 nf3 b3 n4 nf4 b4 n5 nf5 b5 n6 nf6 b6 n7 nf7 b7 n8 nf8 b8 n9 nf9 b9 n10 nf10 b10 n11 nf11 b11 n12 nf12 b12 q26
           have HK8:=Hd (HK6.out.trans (HK7.out.mono (T:=fun b=>some b∈roles (f (some ⟨g,0,u⟩) L.length cP) (f AS vs.length cS) vs) (fun b _ q=>by subst q;exact hgr)))
           have hs57:w5.heap.size≤w6.heap.size:=HSB.out.size
           have hs67:w6.heap.size≤wc.heap.size:=HK7.out.size
           have hdm2:∀ i n k,ln[i]? = some n→k<n→D i k=m→(zaB (G (D i k))).ticked=(zaB p).ticked:=fun i n k _ _ h=>by rw [h,HP.out]
           rcases hmv with ⟨hd,rfl⟩ | ⟨hd,gm,Am,cm,rfl,hrow,hgm,hownm⟩
           · have hfin:=Hd (show OpbR W0 base (f (some ⟨g,0,u⟩) L.length cP) (f AS vs.length cS) vs st L G D ln (m+1) wc from ⟨HO7.out.eq (fun _ _=>rfl) (fun i n k hi hk=>by
              by_cases h:D i k<m
              · rw [if_pos h,if_pos (by omega)]
              · rw [if_neg h]
                by_cases h2:D i k=m
                · rw [if_pos (by omega),h2,HP.out,HBS.out]
                  exact zkx HGD.out hd
                · rw [if_neg (by omega)]),HK8.out⟩)
             have q37:=(HK8.out.cell (b:=w.heap.size) (o:=3) HRB.out.lt hnb).trans (O (k:=3) (v := f AS vs.length cS) HRB.out rfl)
             clear hdm2
             go_wp2
             go_loopw [13] (fun i wr=>i = a d 0∧wr=wc) (fun _ _=>0)
             case atStart=>exact ⟨rfl,rfl⟩
             case round =>
              obtain ⟨rfl,rfl⟩:=hrel
              rcases Nat.eq_zero_or_pos vs.length with hz0 | hz0
              · have d1:decide ((0:Int)<(vs.length:Int))=false:=decide_eq_false (by omega)
                have d2:decide (0<vs.length)=false:=decide_eq_false (by omega)
                go_wp2
                go_roundw
                case rel=>exact ⟨m+1,by omega,by go_num,hfin.out⟩
                case measure=>simp [intOf];omega
              · have d1:decide ((0:Int)<(vs.length:Int))=true:=decide_eq_true (by omega)
                have d2:decide (0<vs.length)=true:=decide_eq_true (by omega)
                go_wp2
                go_roundw
                case rel=>exact ⟨m+1,by omega,by go_num,hfin.out⟩
                case measure=>simp [intOf];omega
           · have hgl5:gm<w5.heap.size:=hrow.lt
             have hgmr:¬ some gm∈roles (f (some ⟨g,0,u⟩) L.length cP) (f AS vs.length cS) vs:=fun q=>by have:=HNR.out _ q;omega
             have HRM:=Hd (show Row wc gm 106 [a d (p.next bs).pub,a d (3*(p.next bs).gap+1),a d 0,a d 0,a d 0,a d (p.next bs).state,a d (p.next bs).seq,C false,a d (p.next bs).rev,f Am (p.next bs).vals.length cm] from (HK7.out.block gm (by omega) (fun q=>by omega)).trans (hrow.below HSB.out hrow.lt))
             have HVM:=Hd (show Rw ValK 6 wc (fun b=>wr.heap.size≤b∧b<w5.heap.size) Am (p.next bs).vals.length (p.next bs).vals from (zeh hownm rfl (fun b z1 z2=>⟨z1,z2⟩)).mono ValK.mono (fun _ z=>z) (fun b z=>(HK7.out.block b (by have:=z.2;omega) (fun q=>by have:=z.1;omega)).trans (HSB.out.block b z.2)))
             obtain ⟨hgn1,hgn2,-⟩:=HGD.out.next hv24
             have HNX:=Hd hgn1
             have HDU:=Hd hd
             have hst5:=Hd (show SnR wc base (f (some ⟨g,0,u⟩) L.length cP) (f AS vs.length cS) vs st L G D ln m 0 0 wc from ⟨HO7.out.eq (fun _ _=>rfl) (fun i n k hi hk=>by
              unfold TkF
              by_cases h:D i k<m
              · rw [if_pos h,if_pos (.inl h)]
              · rw [if_neg h,if_neg (by omega)]),U _ _⟩)
             clear hrow hownm hd hgn1 hdm2
             have q37:=(HK8.out.cell (b:=w.heap.size) (o:=3) HRB.out.lt hnb).trans (O (k:=3) (v := f AS vs.length cS) HRB.out rfl)
             have hlb:w.heap.size<wc.heap.size:=by omega
             generalize hwl:wr.heap.size=gl at *
             go_wp2
             go_loopw [13] (fun i wr=>∃ i0:Nat,i0≤vs.length∧i = a d (i0:Int)∧SnR wc base (f (some ⟨g,0,u⟩) L.length cP) (f AS vs.length cS) vs st L G D ln m i0 0 wr) (fun i _=>vs.length-(intOf i).toNat)
             case atStart=>exact ⟨0,W _,rfl,hst5.out⟩
             case round =>
              clear hst5
              obtain ⟨i0,hi0,rfl,ho9,hk9⟩:=hrel
              have q3:=(hk9.cell (b:=w.heap.size) (o:=3) hlb hnb).trans q37
              have HO9:=Hd ho9
              have HK9:=Hd hk9
              clear ho9 hk9
              by_cases hil:i0<vs.length
              · have d1:decide ((i0:Int)<(vs.length:Int))=true:=decide_eq_true (by omega)
                have d2:decide (i0<vs.length)=true:=decide_eq_true hil
                have hii:(i0:Int)<(vs.length:Int):=by omega
                have hii0:(0:Int)≤(i0:Int):=by omega
                obtain ⟨gS,capS,v,n,heS,hbS,hvi,hni,hcS⟩:=HO9.out.outerAt hil
                injection heS with heS1 heS2 heS3
                subst heS1 heS3
                obtain ⟨Ai,ci,hvie,-,-⟩:∃ A c,v = f A n c∧n≤c∧c≤maxLen:=by
                 obtain ⟨css,h1,-⟩:=HO9.out.subs i0 v n hvi hni
                 exact zac h1
                subst hvie
                have hn24:n≤24:=HLN.out n (I hni)
                have HVI:=Hd hvi
                have HNI:=Hd hni
                clear hvi hni
                go_wp2
                clear hcS q3 d1 d2
                go_loopw [14] (fun k wr=>∃ k0:Nat,k0≤n∧k = a d (k0:Int)∧SnR wc base (f (some ⟨g,0,u⟩) L.length cP) (f (some ⟨gS,0,u⟩) vs.length cS) vs st L G D ln m i0 k0 wr) (fun i _=>n-(intOf i).toNat)
                case atStart=>exact ⟨0,W _,rfl,HO9.out,HK9.out⟩
                case round =>
                 clear HO9 HK9
                 obtain ⟨k0,hk0,rfl,ho,hkb⟩:=hrel
                 have q3:=(hkb.cell (b:=w.heap.size) (o:=3) hlb hnb).trans q37
                 obtain ⟨gS',capS',v',n',heS,hbS',hvi',hni',hcS⟩:=ho.outerAt hil
                 injection heS with heS1 heS2 heS3
                 injection heS1 with heS1
                 injection heS1 with heS1
                 subst heS1
                 rw [HVI.out] at hvi'
                 cases hvi'
                 have HO:=Hd ho
                 have HK:=Hd hkb
                 have hkz:(0:Int)≤(k0:Int):=by omega
                 clear hni' hbS' heS2 heS3 hkb
                 by_cases hkl:k0<n
                 · have hki:(k0:Int)<(n:Int):=by omega
                   obtain ⟨gs,cap,cs,hve,hgb,hcl,hR,hcells,hfz⟩:=(ho.subs i0 _ n HVI.out HNI.out).at_ hkl
                   have hdl:=HD.out i0 n k0 HNI.out hkl
                   obtain ⟨hGd,hGp⟩:=HGG.out _ hdl
                   obtain ⟨hl1,hl2,hl3⟩:=zfZ hGd
                   have hval24:(za7 st L (D i0 k0)).length≤24:=by
                    unfold za7
                    cases hx:L[D i0 k0]? with
                    | none=>simp
                    | some e9=>simp only [ji];exact (HE.out e9 (I hx)).2.1
                   have hnl:=(zfZ (hGd.next hval24).1).2.2
                   obtain ⟨q,hq⟩:∃ q,q=TkF st L G D m i0 k0 i0 k0:=⟨_,rfl⟩
                   obtain ⟨x,hx⟩:∃ x,x=TkF st L G D m i0 (k0+1) i0 k0:=⟨_,rfl⟩
                   rw [← hq] at hR
                   have hq24:q.vals.length≤24:=by
                    rw [hq]
                    unfold TkF
                    split
                    · exact hnl
                    · rw [(zfm _).2];exact hl3
                   obtain ⟨A6,c6,rfl,hcc6,hrv⟩:=hR
                   injection hve with hve1 hve2 hve3
                   subst hve1 hve3
                   have hrg:=zdd (vP:=(f (some ⟨g,0,u⟩) L.length cP)) (vS:=(f (some ⟨gS,0,u⟩) vs.length cS)) HVI.out
                   have hgrs:some gs∈roles (f (some ⟨g,0,u⟩) L.length cP) (f (some ⟨gS,0,u⟩) vs.length cS) vs:=I hrg
                   have hSg:¬ (gS=gs):=fun q=>by
                    have:=ho.inj 1 (i0+2) gS rfl (by rw [hrg,q];rfl)
                    omega
                   have hgw2:gs<w.heap.size:=HNR.out gs hgrs
                   have hbg2:¬ (w.heap.size=gs):=by omega
                   have hmg:¬ (gm=gs):=fun q=>hgmr (by rw [q];exact hgrs)
                   have hscr:=HK.out.size
                   have lbox2:w.heap.size<wr.heap.size:=by omega
                   have lgS:gS<wr.heap.size:=by have:=HNR.out gS (I (i:=1) rfl);omega
                   have lgs:gs<wr.heap.size:=by omega
                   have lgm:gm<wr.heap.size:=by omega
                   have u0:wr.cell? ⟨gs,k0*9,u⟩=some (a d q.pub):=hcells 0 _ rfl
                   have u1:wr.cell? ⟨gs,k0*9+1,u⟩=some (a d q.rev):=hcells 1 _ rfl
                   have u2:wr.cell? ⟨gs,k0*9+2,u⟩=some (C q.known):=hcells 2 _ rfl
                   have u3:wr.cell? ⟨gs,k0*9+3,u⟩=some (a d q.state):=hcells 3 _ rfl
                   have u4:wr.cell? ⟨gs,k0*9+4,u⟩=some (a d q.seq):=hcells 4 _ rfl
                   have u5:wr.cell? ⟨gs,k0*9+5,u⟩=some (a d q.left):=hcells 5 _ rfl
                   have u6:wr.cell? ⟨gs,k0*9+6,u⟩=some (a d q.lost):=hcells 6 _ rfl
                   have u7:wr.cell? ⟨gs,k0*9+7,u⟩=some (C q.test):=hcells 7 _ rfl
                   have u8:wr.cell? ⟨gs,k0*9+8,u⟩=some (f A6 q.vals.length c6):=hcells 8 _ rfl
                   have hrm:Row wr gm 106 [a d (p.next bs).pub,a d (3*(p.next bs).gap+1),a d 0,a d 0,a d 0,a d (p.next bs).state,a d (p.next bs).seq,C false,a d (p.next bs).rev,f Am (p.next bs).vals.length cm]:=(HK.out.block gm (by omega) hgmr).trans HRM.out
                   obtain ⟨m0,m1,m2,m3,m4,m5,m6,m7,m8,m9⟩:=kr10 hrm
                   have HFZ2:=Hd hfz
                   have HRV2:=Hd hrv
                   have HX9:=Hd hx
                   have HQ9:=Hd hq
                   have hglw:w.heap.size≤gl:=by omega
                   have HTK:=Hd (show ∀ W',Below wr.heap.size wr W'→Calls Tryz.prog 24 #[J #[a d q.pub,a d q.rev,C q.known,a d q.state,a d q.seq,a d q.left,a d q.lost,C q.test,f A6 q.vals.length c6],J #[a d (p.next bs).pub,a d (3*(p.next bs).gap+1),a d 0,a d 0,a d 0,a d (p.next bs).state,a d (p.next bs).seq,C false,a d (p.next bs).rev,f Am (p.next bs).vals.length cm]] W' (fun e9 w'=>∃ A' c' r,e9 = .returned (.tuple #[J #[a d x.pub,a d x.rev,C x.known,a d x.state,a d x.seq,a d x.left,a d x.lost,C x.test,f A' x.vals.length c'],a d r])∧x.vals.length≤c'∧c'≤maxLen∧w'.ownsRow W'.heap.size 73 6 (f A' x.vals.length c') x.vals.length (zaT x.vals)∧Below W'.heap.size W' w') from fun W' hW=>by
                    have h1:Rws ValR 6 W' W'.heap.size A6 q.vals.length q.vals:=zgV (HRV2.out.mono ValK.mono (S':=fun b=>b<W'.heap.size) (fun b z=>Y z.1 hW.size) (fun b z=>hW.block b z.1)) (fun b z=>z)
                    have h2:Rws ValR 6 W' W'.heap.size Am (p.next bs).vals.length (p.next bs).vals:=zgV (HVM.out.mono ValK.mono (S':=fun b=>b<W'.heap.size) (fun b z=>by have:=z.2;have:=hW.size;omega) (fun b z=>(hW.block b (by have:=z.2;omega)).trans (HK.out.block b (by have:=z.2;omega) (fun y=>by have:=HNR.out b y;have:=z.1;omega)))) (fun b z=>z)
                    by_cases h:D i0 k0=m
                    · have eq1:q=(zaB p).ticked:=by rw [HQ9.out];unfold TkF;rw [if_neg (by omega),h,HP.out]
                      have ex1:x=zaB (p.next bs):=by rw [HX9.out];unfold TkF;rw [if_pos (by omega),h,HP.out,HBS.out]
                      rw [eq1] at h1 ⊢
                      rw [ex1]
                      refine (zkz HGD.out (by omega) hv24 HDU.out A6 Am c6 cm W'.heap.size W' (V _) h1 h2).mono ?_
                      rintro e9 w9 ⟨r,A',c',rfl,y1,y2,y3,y4⟩
                      exact ⟨A',c',r,rfl,y1,y2,y3,y4⟩
                    · have hqp:q.pub=(D i0 k0:Int):=by
                       rw [HQ9.out]
                       unfold TkF
                       split
                       · rw [(zkw _).1,(PbM.next_fix _ _).1];exact hGp
                       · rw [(zfm _).1,(zkw _).1];exact hGp
                      have hpp:(p.next bs).pub=(m:Int):=by rw [(PbM.next_fix _ _).1];exact HGP.out
                      have ex1:x=q:=by
                       rw [HX9.out,HQ9.out]
                       unfold TkF
                       by_cases h2:D i0 k0<m
                       · rw [if_pos (.inl h2),if_pos (.inl h2)]
                       · rw [if_neg (by omega),if_neg (by omega)]
                      rw [ex1]
                      refine (zjf q HNX.out hgn2 (by omega) A6 Am c6 cm W'.heap.size W' (V _) h1 hq24 h2 (by rw [hqp,hpp];omega)).mono ?_
                      rintro e9 w9 ⟨r,A',c',rfl,y1,y2,y3,y4⟩
                      exact ⟨A',c',r,rfl,y1,y2,y3,y4⟩)
                   clear hcells hfz hrv hq hx ho hrm hcl hcc6 hgb hl1 hl2 hl3 hnl hval24 hGd hGp
                   go_upto_region 25 with fail
                   refine zau (fun w'=>KB (fun b=>b=gs) wr w') (fun w'=>Below wr.heap.size wr w') 17 (by kernel_rfl) ?_
                   obtain ⟨wx,hwd0⟩:∃ x,x=wr.drew:=⟨_,rfl⟩
                   have hS:KB (fun b=>b=gs) wr wx:=by rw [hwd0];exact (U _ _).drew
                   have hC:Below wr.heap.size wr wx:=by rw [hwd0];exact (Below.refl _ _).drew
                   rw [← hwd0]
                   clear hwd0
                   have hz:=hC.size
                   have hCC:=hC
                   refine zam 0 rfl hS (fun _=>hCC) ?_
                   refine zaS 1 ?_ rfl hS (fun _=>hCC) ?yld ?_
                   case yld=>(intro wq hSw;have e:=(hSw.cell (o:=3) lbox2 hbg2).trans q3;go_simp <;> with_reducible rfl)
                   refine zam 2 rfl hS (fun _=>hCC) ?_
                   refine zam 3 rfl hS (fun _=>hCC) ?_
                   refine zaS 4 ?_ rfl hS (fun _=>hCC) ?yld ?_
                   case yld=>(intro wq hSw;have e:=(hSw.cell (b:=gS) (o:=i0) lgS hSg).trans hcS;go_simp <;> with_reducible rfl)
                   refine zam 5 rfl hS (fun _=>hCC) ?_
                   refine zam 6 rfl hS (fun _=>hCC) ?_
                   refine zaS 7 ?_ rfl hS (fun _=>hCC) ?yld ?_
                   case yld=>(intro wq hSw;have e:=(hSw.cell (o:=3) lbox2 hbg2).trans q3;go_simp <;> with_reducible rfl)
                   refine zam 8 rfl hS (fun _=>hCC) ?_
                   refine zam 9 rfl hS (fun _=>hCC) ?_
                   refine zaS 10 ?_ rfl hS (fun _=>hCC) ?yld ?_
                   case yld=>(intro wq hSw;have e:=(hSw.cell (b:=gS) (o:=i0) lgS hSg).trans hcS;go_simp <;> with_reducible rfl)
                   refine zam 11 rfl hS (fun _=>hCC) ?_
                   refine zam 12 rfl hS (fun _=>hCC) ?_
                   refine zbO (i:=13) (v:=?_) rfl (by kernel_rfl) (by kernel_rfl) (by kernel_rfl) (by rfl) (by kernel_rfl) (by kernel_rfl) (fun _ _ _ h=>h) hS hCC (Or.inl ⟨by rfl,?yld⟩) ?_
                   case yld=>(intro wq hSw;obtain ⟨e0,e1,e2,e3,e4,e5⟩:=kb6 hSw lgs ⟨u0,u1,u2,u3,u4,u5⟩;obtain ⟨e6,e7,e8⟩:=kb3 hSw lgs ⟨u6,u7,u8⟩;go_simp <;> with_reducible rfl)
                   refine zam 14 rfl hS (fun _=>hCC) ?_
                   refine zam 15 rfl hS (fun _=>hCC) ?_
                   refine zaS 16 ?_ rfl hS (fun _=>hCC) ?yld ?_
                   case yld=>(intro wq hSw;have e0:=(hSw.cell (o:=0) lgm hmg).trans m0;have e1:=(hSw.cell (o:=1) lgm hmg).trans m1;have e2:=(hSw.cell (o:=2) lgm hmg).trans m2;have e3:=(hSw.cell (o:=3) lgm hmg).trans m3;have e4:=(hSw.cell (o:=4) lgm hmg).trans m4;have e5:=(hSw.cell (o:=5) lgm hmg).trans m5;have e6:=(hSw.cell (o:=6) lgm hmg).trans m6;have e7:=(hSw.cell (o:=7) lgm hmg).trans m7;have e8:=(hSw.cell (o:=8) lgm hmg).trans m8;have e9:=(hSw.cell (o:=9) lgm hmg).trans m9;go_simp <;> with_reducible rfl)
                   refine zad (rs:=[17]) (by kernel_rfl) (by simp) ?_
                   refine Q (i:=17) rfl (fun K hK => ?_) ?_
                   · skip
                     go_simp
                     go_at_call 24
                     (with_reducible refine (HTK.out _ hC).mono ?_)
                     rintro e9 wy ⟨A',c',r,rfl,hlc',hcm',hown,hbt⟩
                     have hby:=hC.trans (hbt.mono hC.size)
                     go_wp2_with fail
                     refine hK.out _ _ (ja hby) (fun q=>M (show true=false from q)) (fun hS hCC => ?_)
                     clear hK K
                     obtain ⟨n0,n1,n2,n3,n4,n5⟩:=kb6 hby lgs ⟨u0,u1,u2,u3,u4,u5⟩;obtain ⟨n6,n7,n8⟩:=kb3 hby lgs ⟨u6,u7,u8⟩;obtain ⟨nf0,nf1,nf2,nf3,nf4,nf5⟩:=kf6 hby lgs ⟨(HFZ2.out (k0*9)),(HFZ2.out (k0*9+1)),(HFZ2.out (k0*9+2)),(HFZ2.out (k0*9+3)),(HFZ2.out (k0*9+4)),(HFZ2.out (k0*9+5))⟩;obtain ⟨nf6,nf7,nf8⟩:=kf3 hby lgs ⟨(HFZ2.out (k0*9+6)),(HFZ2.out (k0*9+7)),(HFZ2.out (k0*9+8))⟩
                     have HFIN:=Hd (show SnR wc base (f (some ⟨g,0,u⟩) L.length cP) (f (some ⟨gS,0,u⟩) vs.length cS) vs st L G D ln m i0 (k0+1) (sets gs wy (zaQ (k0*9) (x.cells A' c'))) from
                      ⟨((HO.out.below hby).putSub (x:=x) HVI.out HNI.out hkl ⟨A',c',rfl,⟨hlc',hcm'⟩,zeh hown rfl (fun b z1 z2=>(HO.out.below hC).new z1 z2)⟩).eq (fun _ _=>rfl) (fun i n' k _ _=>by
                       show (if i=i0∧k=k0 then x else TkF st L G D m i0 k0 i k)=TkF st L G D m i0 (k0+1) i k
                       by_cases h:i=i0∧k=k0
                       · obtain ⟨rfl,rfl⟩:=h
                         rw [if_pos ⟨rfl,rfl⟩,HX9.out]
                       · rw [if_neg h]
                         unfold TkF
                         by_cases h2:D i k<m∨(D i k=m∧(i<i0∨(i=i0∧k<k0)))
                         · rw [if_pos h2,if_pos (by omega)]
                         · rw [if_neg h2,if_neg (by omega)]),
                        (HK.out.thenB hby).trans (zeJ (X:=fun b=>some b∈roles (f (some ⟨g,0,u⟩) L.length cP) (f (some ⟨gS,0,u⟩) vs.length cS) vs) hgrs _ _)⟩)
                     clear hown hbt
                     refine zam 18 rfl hS (fun q=>M (show true=false from q)) ?_
                     refine zam 19 rfl hS (fun q=>M (show true=false from q)) ?_
                     refine zam 20 rfl hS (fun q=>M (show true=false from q)) ?_
                     refine zam 21 rfl hS (fun q=>M (show true=false from q)) ?_
                     refine zad (rs:=[22]) (by kernel_rfl) (by simp) ?_
                     refine Q (i:=22) rfl (fun K hK => ?_) ?_
                     · skip
                       go_simp
                       refine hK.out _ _ (H (H (H (H (H (H (H (H (H (hS) (.inl rfl) _ _) (.inl rfl) _ _) (.inl rfl) _ _) (.inl rfl) _ _) (.inl rfl) _ _) (.inl rfl) _ _) (.inl rfl) _ _) (.inl rfl) _ _) (.inl rfl) _ _) (fun q=>M (show true=false from q)) (fun hS hCC => ?_)
                       clear hK K
                       refine zaR (by kernel_rfl) ?_ _
                       have hf:=HFIN.out
                       simp only [sets,zaQ,SbM.cells,jf,jg,jd,je] at hf
                       clear n0 nf0 u0 n1 nf1 u1 n2 nf2 u2 n3 nf3 u3 n4 nf4 u4 n5 nf5 u5 n6 nf6 u6 n7 nf7 u7 n8 nf8 u8
                       go_wp2
                       go_roundw
                       case rel=>exact ⟨k0+1,by omega,by go_num,hf⟩
                       case measure=>simp [intOf];omega
                     exact P
                   exact P
                 · obtain rfl:k0=n:=by omega
                   clear hkz hkl
                   go_wp2
                   go_roundw
                   case rel =>
                    refine ⟨i0+1,by omega,by go_num,HO.out.eq (fun _ _=>rfl) (fun i n' k hi hk => ?_),HK.out⟩
                    unfold TkF
                    by_cases h:i=i0
                    · subst h
                      have hnn:n'=k0:=by have:=HNI.out;rw [hi] at this;exact Option.some.inj this
                      by_cases h2:D i k<m∨D i k=m
                      · rw [if_pos (by omega),if_pos (by omega)]
                      · rw [if_neg (by omega),if_neg (by omega)]
                    · by_cases h2:D i k<m∨(D i k=m∧i<i0)
                      · rw [if_pos (by omega),if_pos (by omega)]
                      · rw [if_neg (by omega),if_neg (by omega)]
                   case measure=>simp [intOf];omega
              · obtain rfl:i0=vs.length:=by omega
                have d1:decide ((vs.length:Int)<(vs.length:Int))=false:=decide_eq_false (by omega)
                have d2:decide (vs.length<vs.length)=false:=decide_eq_false (by omega)
                have hfin:=Hd (show OpbR W0 base (f (some ⟨g,0,u⟩) L.length cP) (f AS vs.length cS) vs st L G D ln (m+1) wr from ⟨HO9.out.eq (fun _ _=>rfl) (fun i n k hi hk=>by
                 have hi2:i<vs.length:=by have:=(List.getElem?_eq_some_iff.1 hi).1;have:=HO9.out.len;omega
                 unfold TkF
                 by_cases h:D i k<m+1
                 · rw [if_pos (by omega),if_pos h]
                 · rw [if_neg (by omega),if_neg h]),HK8.out.trans HK9.out⟩)
                clear hil
                go_wp2
                go_roundw
                case rel=>exact ⟨m+1,by omega,by go_num,hfin.out⟩
                case measure=>simp [intOf];omega
     · obtain rfl:m=L.length:=by omega
       have hmi:¬ ((L.length:Int)<(L.length:Int)):=by omega
       have d1:decide ((L.length:Int)<(L.length:Int))=false:=decide_eq_false (by omega)
       have d2:decide (L.length<L.length)=false:=decide_eq_false (by omega)
       have hnz:¬ some (w.heap.size+1)∈roles (f AP L.length cP) (f AS vs.length cS) vs:=fun q=>by have:=HNR.out _ q;omega
       have hrz:Row wr (w.heap.size+1) 42 [f u 0 0,f u 0 0,f u 0 0,f u 0 0]:=(HK.out.block _ HRZ.out.lt hnz).trans HRZ.out
       obtain ⟨z0,z1,z2,z3⟩:=kr4 hrz;obtain ⟨zf0,zf1,zf2,zf3⟩:=kq4 hrz
       have HFIN:=Hd (show OffS (sets (w.heap.size+1) wr [(0,f A7 L.length c7),(1,f A8 n8 c8),(2,f AP L.length cP),(3,f AS vs.length cS)]) base (f AP L.length cP) (f AS vs.length cS) vs L.length (fun n=>(G n).next (za7 st L n)) ln (fun i k=>zaB ((G (D i k)).next (za7 st L (D i k)))) from
        (HO.out.box hrz (by intro v hv;simp only [jh,List.not_mem_nil,or_false] at hv;rcases hv with rfl | rfl | rfl | rfl <;> exact ⟨_,_,_,rfl⟩) hnz _).eq (fun n hn=>if_pos hn) (fun i n k hi hk=>if_pos (HD.out i n k hi hk)))
       have hbz:w.heap.size≠w.heap.size+1:=by omega
       have HBE:=Hd (show Below base w wr from (HB.out.mono hw).trans (HK.out.below (by have:=HSZ.out;omega) (fun b q=>(HO.out.lt b q).1)))
       have HKE:=Hd (show KB (fun b=>some b∈roles (f AP L.length cP) (f AS vs.length cS) vs) w wr from (ja HB.out).trans HK.out)
       clear hrz hml
       go_wp2
       refine bodyPost_ret (v := J #[f A7 L.length c7,f A8 n8 c8,f AP L.length cP,f AS vs.length cS]) (by simp [results,Tryz.results7,go_sem,z0,z1,z2,z3]) rfl ⟨rfl,HFIN.out,?_,?_⟩
       · exact zak (g:=w.heap.size+1) (by omega) [(0,f A7 L.length c7),(1,f A8 n8 c8),(2,f AP L.length cP),(3,f AS vs.length cS)] wr HBE.out
       · exact HKE.out.kb (zeJ (X:=fun b=>b=w.heap.size+1) rfl [(0,f A7 L.length c7),(1,f A8 n8 c8),(2,f AP L.length cP),(3,f AS vs.length cS)] wr) (fun b q => .inr (by omega))
end Go.Proofs.YtjkimieapfbhbaaGreatDoor
