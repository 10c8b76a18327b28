/-
  The reference's Tree: the value of an expression, and the cells behind it.
-/
import Derived.Test.YtcikenlflcofbaaGreatDoorR28
import Derived.Test.YtcikenlflcofbaaGreatDoorKR27
import Derived.Test.YtcikenlflcofbaaGreatDoorChk
import Derived.Deep.RegionHeld3
set_option maxRecDepth 100000
set_option maxHeartbeats 8000000
namespace Go.Proofs.YtcikenlflcofbaaGreatDoor
open Go.RowKit
theorem zjZ {W:World} {g:Nat} {a b c d:Value} {t:TypeId} (h:W.heap[g]? = some (.cells #[a,b,c,d] t (0,0))):W.cell? ⟨g,0,none⟩=some a∧W.cell? ⟨g,1,none⟩=some b∧W.cell? ⟨g,2,none⟩=some c∧W.cell? ⟨g,3,none⟩=some d:=
  ⟨by simp [World.cell?,h],by simp [World.cell?,h],by simp [World.cell?,h],by simp [World.cell?,h]⟩
theorem zfI (w:World) (o:Obj):(w.alloc o).heap=w.heap.push o:=rfl
theorem zg2 (w:World):w.drew.heap=w.heap:=rfl
theorem zcq {b g:Nat} (W:World) (i:Nat) (v:Value) (h:b≠g):(W.setCell ⟨g,i,none⟩ v).heap[b]? = W.heap[b]? := Below.heap_setCell W _ v b h
theorem zfy {W:World} {g:Nat} (h:W.heap[g]? = some (Obj.cells #[.bool false,.int .i64 0] 83)):W.cell? ⟨g,0,none⟩=some (.bool false)∧W.cell? ⟨g,1,none⟩=some (.int .i64 0)∧W.frozen? ⟨g,0,none⟩=false∧W.frozen? ⟨g,1,none⟩=false∧g<W.heap.size:=
  ⟨by simp [World.cell?,h],by simp [World.cell?,h],Lib.frozen_of_heap h 0,Lib.frozen_of_heap h 1,(Array.getElem?_eq_some_iff.1 h).1⟩
def CtR (W:World) (r:Int × Cs) (v19 v20:Value) (wc:World):Prop:=∃ bx,v19 = .int .i64 r.1∧v20 = .pointer (some ⟨bx,0,none⟩)∧bx<wc.heap.size∧wc.cell? ⟨bx,0,none⟩=some (.bool r.2.on)∧wc.cell? ⟨bx,1,none⟩=some (.int .i64 r.2.n)∧Below W.heap.size W wc
theorem zjH {W:World} {g:Nat} {a b:Value} {t:TypeId} (h:W.heap[g]? = some (Obj.cells #[a,b] t (0,0))):W.cell? ⟨g,0,none⟩=some a∧W.cell? ⟨g,1,none⟩=some b:=
  ⟨by simp [World.cell?,h],by simp [World.cell?,h]⟩
theorem ct_A {we w12:World} {r:Int × Cs} (hb:Below we.heap.size we w12):CtR we r (.int .i64 r.1) (.pointer (some ⟨w12.heap.size,0,none⟩)) (w12.alloc (Obj.cells #[.bool r.2.on,.int .i64 r.2.n] 83)):=by
  have h:=heap_alloc_new w12 (Obj.cells #[.bool r.2.on,.int .i64 r.2.n] 83);exact ⟨_,rfl,rfl,by rw [World.size_alloc];omega,(zjH h).1,(zjH h).2,hb.alloc hb.size _⟩
theorem ct_B {we w12:World} {r:Int × Cs} (hb:Below we.heap.size we w12) (hm:w12.heap[we.heap.size]? = some (Obj.cells #[.bool false,.int .i64 0] 83)) :
    CtR we r (.int .i64 r.1) (.pointer (some ⟨we.heap.size,0,none⟩)) ((w12.setCell ⟨we.heap.size,0,none⟩ (.bool r.2.on)).setCell ⟨we.heap.size,1,none⟩ (.int .i64 r.2.n)):=by
  have hl:=(Array.getElem?_eq_some_iff.1 hm).1;obtain ⟨h0,h1,-⟩:=zar hm (.bool r.2.on) (.int .i64 r.2.n);exact ⟨_,rfl,rfl,by simp only [World.size_setCell];exact hl,h0,h1,zaE hb (Nat.le_refl _) _ _⟩
theorem zln {w:World} {base n c:Nat} {A:Option Addr} {l:List Int} (h:w.ownsRow base 3 1 (.slice A n c) n (l.map (Value.int .i64))) (hn:l.length=n):Rw IaC 1 w (Old w) A n l:=
  Rw.of_own (f:=fun x=>[Value.int .i64 x]) (base:=base) (e := 3) (c:=c) (by rw [← List.map_eq_flatMap];exact h) hn (fun _ _=>rfl) (fun _ _=>rfl) (fun b _ q=>q)
theorem zgq {names:List (List UInt8)} {vals:List Int} {nm x:List UInt8} {i:Nat} (h:names[i]? = some x):zci (names.drop i) (vals.drop i) nm=if x=nm then vals.getD i 0 else zci (names.drop (i+1)) (vals.drop (i+1)) nm:=by
  have hl:=(List.getElem?_eq_some_iff.1 h).1;have he:names[i]=x:=(List.getElem?_eq_some_iff.1 h).2;rw [List.drop_eq_getElem_cons hl,he]
  show (if x=nm then (vals.drop i).getD 0 0 else zci (names.drop (i+1)) ((vals.drop i).drop 1) nm)=_
  rw [List.drop_drop,List.getD_eq_getElem?_getD,List.getElem?_drop,Nat.add_zero,← List.getD_eq_getElem?_getD]
def RetTr (T:Tv) (b0 gc cc N:Nat) (w:World) (e:Ending) (w':World):Prop:=e = .returned (.tuple #[.int .i64 T.v,.int .i64 (T.k:Int)])∧CeW w' b0 gc cc N T.cs∧KB (fun g=>g=gc) w w'
def TrL (f:Ex→List Cs→Nat→Tv) (P:Ex→List Cs→Nat→Prop) (w W0:World) (ex:Obj) (b0 gc cc N:Nat) (ks:List Ex) (T:Kv) (g:Nat) (v4 v12 v24:Value) (wr:World):Prop:=
  ∃ (j:Nat) (xs:List Int) (cs:List Cs) (k:Nat),j≤ks.length∧ks.length-j<g∧v24 = .int .i64 (j:Int)∧v4 = .int .i64 (k:Int)∧zc3 f (ks.drop j) xs cs k=T∧zfM f P (ks.drop j) cs k∧xs.length=j ∧
    wr.ownsRow (w.heap.size+1) 3 1 v12 j (xs.map (Value.int .i64))∧wr.heap[w.heap.size]? = some ex∧CeW wr b0 gc cc N cs∧KB (fun g=>g=gc∨w.heap.size+1≤g) W0 wr
def TrN (W1:World) (names:List (List UInt8)) (vals:List Int) (nm:List UInt8) (g:Nat) (v60:Value) (wr:World):Prop:=
  ∃ i:Nat,i≤names.length∧names.length-i<g∧v60 = .int .i64 (i:Int)∧zci (names.drop i) (vals.drop i) nm=zci names vals nm∧wr=W1
theorem zis {wf:World} {b0 gc cc N k:Nat} {cs:List Cs} {t r:Cs} (h:CeW wf b0 gc cc N cs) (ht:cs[k]? = some t):CeW ((wf.setCell ⟨gc,k*2,none⟩ (.bool r.on)).setCell ⟨gc,k*2+1,none⟩ (.int .i64 r.n)) b0 gc cc N (cs.set k r):=by
  have hca:=(h.setOn ht r.on).setN (zcl ht _) r.n;rw [set_set] at hca;exact hca
theorem zjt (names:List (List UInt8)) (vals:List Int) (An Av:Option Addr) (cn cv b0 gc cc N:Nat) (S:Nat→Prop) (hSg:¬ S gc) (hnm:names.length≤1000) (hnv:names.length≤vals.length) (hvm:vals.length≤1000):∀ (d:Nat) (op n:Int) (nm:List UInt8) (A:Option Addr) (c:Nat) (ks:List Ex) (cs:List Cs) (k:Nat) (w:World),
    okG (d+1) (.mk op n nm ks)→ExP op n nm→ks.length≤9223372036854775807→(∀ b,S b→b<w.heap.size)→Rw ExV 4 w S A ks.length ks→zer names vals (d+1) (.mk op n nm ks) cs k→CeW w b0 gc cc N cs→N≤100000 →
    Rw NmC 1 w S An names.length names→Rw IaC 1 w S Av vals.length vals →
    Calls Tryz.prog 12 #[exV op n nm A ks.length c,.slice An names.length cn,.slice Av vals.length cv,.slice (some ⟨gc,0,none⟩) N cc,.int .i64 (k:Int)] w (RetTr (zaX names vals (d+1) (.mk op n nm ks) cs k) b0 gc cc N w):=by
  intro d
  induction d using Nat.strongRecOn with
  | _ d ih =>
    intro op n nm A c ks cs k w hok hp hkl hS hr htr hce hN hrn hrv;have hres:zaX names vals (d+1) (.mk op n nm ks) cs k=zbF names vals op n nm (zc3 (zaX names vals d) ks [] cs k):=rfl;obtain ⟨hkok,hopk⟩:zfM (zaX names vals d) (zer names vals d) ks cs k∧opOk op (zc3 (zaX names vals d) ks [] cs k):=htr;rw [hres];obtain ⟨T,hT⟩:∃ T,zc3 (zaX names vals d) ks [] cs k=T:=⟨_,rfl⟩;rw [hT] at hopk ⊢;have hgc:=hce.lt;have HT:=Hi hT;have HKO:=Hi hkok;have HOP:=Hi hopk;have HOK:=Hi hok;have HIH:=Hi ih;have HS:=Hi hS;have HR:=Hi hr;have HRN:=Hi hrn;have HRV:=Hi hrv;have HCE:=Hi hce;have hbx:=zaa w (Obj.cells #[.int .i64 op,.int .i64 n,.string ⟨nm.toArray⟩,.slice A ks.length c] 48);have HBX:=Hi hbx;have hn0:=heap_alloc_new w (Obj.cells #[.int .i64 op,.int .i64 n,.string ⟨nm.toArray⟩,.slice A ks.length c] 48);have HN0:=Hi hn0;have hs0:=World.size_alloc w (Obj.cells #[.int .i64 op,.int .i64 n,.string ⟨nm.toArray⟩,.slice A ks.length c] 48);have x3:=(zjZ hn0).2.2.2;have hxl:w.heap.size<(w.alloc (Obj.cells #[.int .i64 op,.int .i64 n,.string ⟨nm.toArray⟩,.slice A ks.length c] 48)).heap.size:=by omega
    obtain ⟨ti,hti,hz0,hz1,hz2⟩:=info_parts zdD;have HTI:=Hi (And.intro hti (And.intro hz0 (And.intro hz1 hz2)));have HS0:=Hi hs0;clear hres hT hkok hopk hok ih hS hr hce hrn hrv hbx hn0 hti hz0 hz1 hz2 hp;unfold exV;go_enter Tryz.func12,Tryz.ntmps12;go_upto_region 1 with fail
    generalize w.alloc (Obj.cells #[.int .i64 op,.int .i64 n,.string ⟨nm.toArray⟩,.slice A ks.length c] 48)=W0 at *;go_wp2;clear x3;go_loopg [4,12,24] (ks.length+1) (fun g v4 v12 v24 wr=>TrL (zaX names vals d) (zer names vals d) w W0 (Obj.cells #[.int .i64 op,.int .i64 n,.string ⟨nm.toArray⟩,.slice A ks.length c] 48) b0 gc cc N ks T g v4 v12 v24 wr)
    case atStart=>exact ⟨0,[],cs,k,Nat.zero_le _,by omega,rfl,rfl,by rw [List.drop_zero];exact HT.out,by rw [List.drop_zero];exact HKO.out,rfl,World.ownsRow_nil _ _ _ _,HN0.out,HCE.out.keep (HBX.out.block _ hgc),KB.refl _ _⟩
    case round =>
      rename World=>wr
      obtain ⟨j,xs,cs',k',hj,hg,rfl,rfl,hkt,hko,hxs,hown,hn0,hce,hkb⟩:=hrel;have hs0:=HS0.out;have hsz:=hkb.size;have hgc':=hce.lt;have r0:wr.cell? ⟨w.heap.size,0,none⟩=some (.int .i64 op):=by simp [World.cell?,hn0]
      have r1:wr.cell? ⟨w.heap.size,1,none⟩=some (.int .i64 n):=by simp [World.cell?,hn0]
      have r2:wr.cell? ⟨w.heap.size,2,none⟩=some (.string ⟨nm.toArray⟩):=by simp [World.cell?,hn0]
      have hl0:w.heap.size<wr.heap.size:=by omega
      have hkS:KeepOn S w wr:=fun b hb=>by
        have hb':=HS.out b hb
        exact (hkb.block b (by omega) (fun q=>by
          rcases q with q | q
          · exact hSg (by rw [← q];exact hb)
          · omega)).trans (HBX.out.block b hb')
      have HKS:=Hi hkS;have HKB:=Hi hkb;have HCR:=Hi hce;have HNX:=Hi hn0;clear hn0 hkb hce hkS HT HKO
      by_cases hlk:j<ks.length
      case neg =>
        obtain rfl:j=ks.length:=by omega
        rw [List.drop_length] at hkt;have hT2:T=⟨xs,cs',k'⟩:=hkt.symm;subst hT2;have hop:=zcS HOK.out.1;have har:=zcF HOK.out.1;obtain ⟨hvr,h16,hcl⟩:=HOP.out;dsimp only at hvr h16 hcl;obtain ⟨A7,c7,hv12,hc7,hm7⟩:=zag hown;subst hv12;have hia:=zln hown hxs;have HIA:=Hi hia;have HFIN:=Hi (fun (W:World) (h:KB (fun g=>g=gc) wr W)=>show KB (fun g=>g=gc) w W from ((KB.of_below HBX.out).trans (HKB.out.mono (T:=fun g=>g=gc∨w.heap.size≤g) (fun g _ q=>by rcases q with q | q;exact .inl q;exact .inr (by omega)))).trans (h.mono (fun g _ q => .inl q)) |>.mono (fun g hg q=>by rcases q with q | q;exact q;omega));have HHC:=Hi (fun W=>zhe op W);clear hkt hko hown hia hlk HIH HR hxl
        by_cases h12:op=1∨op=2
        · have HRE:Hid (zbF names vals op n nm ⟨xs,cs',k'⟩=⟨n,cs',k'⟩):=Hi (by unfold zbF;rw [if_pos h12])
          clear har hvr h16 hcl hop
          rcases h12 with rfl | rfl
          all_goals
            go_wp2
            refine bodyPost_ret (v := .tuple #[.int .i64 n,.int .i64 (k':Int)]) (by simp [results,Tryz.results12,go_sem]) rfl ?_
            rw [HRE.out]
            exact ⟨rfl,HCR.out,HFIN.out _ (KB.refl _ _)⟩
        have e1:¬ op=1:=fun q=>h12 (.inl q)
        have e2:¬ op=2:=fun q=>h12 (.inr q)
        by_cases h3:op=3
        · have HRE:Hid (zbF names vals op n nm ⟨xs,cs',k'⟩=⟨zci names vals nm,cs',k'⟩):=Hi (by unfold zbF;rw [if_neg h12,if_pos h3])
          subst h3
          clear har hvr h16 hcl hop e1 e2 h12
          go_wp2
          go_loopg [60] (names.length+1) (fun g v60 wq=>TrN wr names vals nm g v60 wq)
          case atStart=>exact ⟨0,Nat.zero_le _,by omega,rfl,by rw [List.drop_zero,List.drop_zero],rfl⟩
          case round =>
            obtain ⟨i,hi,hgi,rfl,hfv,hwq⟩:=hrel
            subst hwq
            by_cases hlt:i<names.length
            case neg =>
              obtain rfl:i=names.length:=by omega
              rw [List.drop_length] at hfv
              have HFV:=Hi (show (0:Int)=zci names vals nm from hfv)
              clear hfv hlt
              go_wp2
              refine bodyPost_ret (v := .tuple #[.int .i64 0,.int .i64 (k':Int)]) (by simp [results,Tryz.results12,go_sem]) rfl ?_
              rw [HRE.out]
              exact ⟨by rw [← HFV.out],HCR.out,HFIN.out _ (KB.refl _ _)⟩
            obtain ⟨b,o,x,hA,hSb,hx,hxl,y0⟩:=nmAt (HRN.out.mono NmC.mono (fun _ q=>q) HKS.out) hlt
            obtain ⟨b5,o5,z,hA5,hSb5,hz,u0⟩:=iaAt (HRV.out.mono IaC.mono (fun _ q=>q) HKS.out) (show i<vals.length by omega)
            subst hA
            subst hA5
            rw [zgq hx] at hfv
            have hbk:b<wr.heap.size:=by have:=HS.out b hSb;omega
            have hbk5:b5<wr.heap.size:=by have:=HS.out b5 hSb5;omega
            have hiv:(i:Int)<(vals.length:Int):=by omega
            by_cases e:x=nm
            · rw [if_pos e] at hfv
              have hgz:vals.getD i 0=z:=by rw [List.getD_eq_getElem?_getD,hz];rfl
              rw [hgz] at hfv
              have HFV:=Hi hfv
              have he:(x == nm)=true:=by simpa using e
              clear hfv e hx hz hSb hSb5 hgz
              go_wp2
              refine bodyPost_ret (v := .tuple #[.int .i64 z,.int .i64 (k':Int)]) (by simp [results,Tryz.results12,go_sem]) rfl ?_
              rw [HRE.out]
              exact ⟨by rw [← HFV.out],HCR.out,HFIN.out _ (KB.refl _ _)⟩
            · rw [if_neg e] at hfv
              have HFV:=Hi hfv
              have he:(x == nm)=false:=by simpa using e
              clear hfv e hx hz hSb hSb5
              go_wp2
              go_roundg (names.length-i)
              case measure=>omega
              case rel=>exact ⟨i+1,by omega,by omega,by go_num,HFV.out,rfl⟩
        have b3:(op == 3)=false:=by simpa using h3
        have b1:(op == 1)=false:=by simpa using e1
        have b2:(op == 2)=false:=by simpa using e2
        cases hkb:zaG op with
        | false =>
          have h4:4≤op∧op≤16:=by
            have h17:¬ (17≤op∧op≤22):=fun q=>by rw [zc2.2 q] at hkb;cases hkb
            omega
          have HRE:Hid (zbF names vals op n nm ⟨xs,cs',k'⟩=⟨zau op xs,cs',k'⟩):=Hi (by unfold zbF;rw [if_neg h12,if_neg h3,hkb];rfl);have hon:opnP op=(xs.length:Int):=by rw [← zeF (by omega) (by omega) (by omega) h3,← har,hxs]
          have HPL:=zh0 A7 c7 wr h4 hon hvr h16 (by rw [hxs];exact HIA.out);rw [hxs] at HPL;obtain ⟨z,hz⟩:∃ z,zau op xs=z:=⟨_,rfl⟩;rw [hz] at HPL HRE;have HPX:=Hi HPL;have hhc:=HHC.out;simp only [hkb] at hhc;have HHD:=Hi hhc;clear hkb hhc HPL hz hon h4 h3 h12 e1 e2 har hvr h16 hcl hop HHC;go_wp2_with ((refine (HHD.out _).mono ?_;rintro e8 w8 ⟨rfl,rfl⟩))
          refine HPX.out.mono ?_
          rintro e w12 ⟨rfl,hb12⟩
          have HB12:=Hi hb12;clear hb12;go_wp2;refine bodyPost_ret (v := .tuple #[.int .i64 z,.int .i64 (k':Int)]) (by simp [results,Tryz.results12,go_sem]) rfl ?_
          rw [HRE.out];exact ⟨rfl,HCR.out.keep (HB12.out.block _ HCR.out.lt),HFIN.out _ (KB.of_below HB12.out)⟩
        | true =>
          have h17:=zc2.1 hkb;obtain ⟨hkc,hc0,hc1⟩:=hcl hkb;obtain ⟨t,ht⟩:∃ t,cs'[k']? = some t:=⟨_,List.getElem?_eq_getElem hkc⟩;have htD:cs'.getD k' ⟨false,0⟩=t:=by rw [List.getD_eq_getElem?_getD,ht];rfl
          rw [htD] at hc0 hc1
          have hnr:0≤n∧n≤100000:=by
            obtain ⟨-,-,hn⟩:=zhG HOK.out.1;obtain ⟨-,h1,h2⟩:=hn h3;refine ⟨h1,Int.le_trans h2 ?_⟩
            unfold zcM
            (repeat' split) <;> omega
          have HRE:Hid (zbF names vals op n nm ⟨xs,cs',k'⟩=⟨(zcL op n t (decide (xs.getD 0 0=1)) (decide (xs.length=2) && decide (xs.getD 1 0=1))).1,cs'.set k' (zcL op n t (decide (xs.getD 0 0=1)) (decide (xs.length=2) && decide (xs.getD 1 0=1))).2,k'+1⟩):=Hi (by
            unfold zbF;rw [if_neg h12,if_neg h3,hkb];dsimp only;rw [htD]
            rfl)
          have hkN:k'<N:=by have:=HCR.out.len;omega
          have hkI:(k':Int)<(N:Int):=by omega
          have hn12:ks.length=1∨ks.length=2:=by
            have h1:(ks.length:Int)=1∨(ks.length:Int)=2:=by
              rw [har]
              rcases (show op=17∨op=18∨op=19∨op=20∨op=21∨op=22 by omega) with e | e | e | e | e | e <;> (rw [e];decide)
            omega
          have HCA:=Hi (fun x y W=>zjk (op:=op) (n:=n) (c:=t) x y W h17 hnr ⟨hc0,by omega⟩);have hhc:=HHC.out;simp only [hkb] at hhc;have HHD:=Hi hhc;obtain ⟨t0,t1,t2,t3⟩:=HCR.out.get ht;have HTT:=Hi ht
          obtain ⟨x0,A1',hA1'⟩:∃ x0 tl,xs=x0::tl:=by
            cases xs with
            | nil=>rw [← hxs] at hn12;simp at hn12
            | cons x0 tl=>exact ⟨x0,tl,rfl⟩
          subst hA1';obtain ⟨b7,o7,x',hA7,hSb7,hx7,z0⟩:=iaAt HIA.out (show 0<ks.length by omega);subst hA7;have hxx:x0=x':=Option.some.inj ((List.getElem?_cons_zero (a:=x0) (l:=A1')).symm.trans hx7);subst hxx;have hlb7:b7<wr.heap.size:=hSb7;have hj0:(0:Int)<(ks.length:Int):=by omega
          rw [Nat.add_zero] at z0;obtain ⟨ton,tn⟩:=t;dsimp only at t0 t1
          have hUW:∀ W:World,(∀ b,b<wr.heap.size→W.heap[b]? = wr.heap[b]?)→W.cell? ⟨w.heap.size,0,none⟩=some (.int .i64 op)∧W.cell? ⟨w.heap.size,1,none⟩=some (.int .i64 n)∧W.cell? ⟨gc,k'*2,none⟩=some (.bool ton)∧W.cell? ⟨gc,k'*2+1,none⟩=some (.int .i64 tn)∧W.cell? ⟨b7,o7,none⟩=some (.int .i64 x0):=fun W h =>
            ⟨(World.cell?_of_block (h _ hl0)).trans r0,(World.cell?_of_block (h _ hl0)).trans r1,(World.cell?_of_block (h _ hgc')).trans t0,(World.cell?_of_block (h _ hgc')).trans t1,(World.cell?_of_block (h _ hlb7)).trans z0⟩
          have HUW:=Hi hUW;have HKX:=Hi (fun (W:World) (h:Below wr.heap.size wr W)=>HUW.out W (fun b q=>h.block b q));have hgD:(x0::A1').getD 0 0=x0:=rfl;rw [hgD] at HRE;clear hkb hhc hUW ht htD t2 t3 hx7 hSb7 h3 h12 e1 e2 hcl hvr h16 hop hnr hc0 hc1 h17 har hkc HHC hgD HN0
          rcases hn12 with hn1 | hn1
          · obtain rfl:A1'=[]:=List.eq_nil_of_length_eq_zero (by rw [List.length_cons] at hxs;omega)
            have hq2:((ks.length:Int) == 2)=false:=by rw [beq_eq_false_iff_ne];omega
            clear hxs
            obtain ⟨rr,hrr⟩:∃ rr,zcL op n ⟨ton,tn⟩ (x0 == 1) false=rr:=⟨_,rfl⟩
            have hce:=fun W=>HCA.out (x0 == 1) false W
            simp only [hrr] at hce
            have HC1:=Hi hce
            have hre2:zbF names vals op n nm ⟨[x0],cs',k'⟩=⟨rr.1,cs'.set k' rr.2,k'+1⟩:=by rw [← hrr];exact HRE.out
            have HR2:=Hi hre2
            clear HRE hce hrr hre2 HCA
            go_upto_region 21 with (refine (HHD.out _).mono ?_;rintro e8 w8 ⟨rfl,rfl⟩)
            go_cut [19,20] (fun v19 v20 wf=>CtR wr rr v19 v20 wf)
            case first =>
              go_region_held3 (fun w'=>w'.cell? ⟨w.heap.size,0,none⟩=some (.int .i64 op)∧w'.cell? ⟨w.heap.size,1,none⟩=some (.int .i64 n)∧w'.cell? ⟨gc,k'*2,none⟩=some (.bool ton)∧w'.cell? ⟨gc,k'*2+1,none⟩=some (.int .i64 tn)∧w'.cell? ⟨b7,o7,none⟩=some (.int .i64 x0)) (first | exact HKX.out _ hbe12 | exact HKX.out _ (zad hbe12) | exact HKX.out _ ((hbe12).alloc (hbe12).size _) | exact HKX.out _ (zad ((hbe12).alloc (hbe12).size _)) | exact HKX.out _ (Below.refl wr.heap.size wr) | exact HKX.out _ (zad (Below.refl wr.heap.size wr)) | exact HKX.out _ (((Below.refl wr.heap.size wr)).alloc ((Below.refl wr.heap.size wr)).size _) | exact HKX.out _ (zad (((Below.refl wr.heap.size wr)).alloc ((Below.refl wr.heap.size wr)).size _)) | exact HKX.out _ (zaE hbe12 (Nat.le_refl _) _ _) | exact HKX.out _ (zaE (zad hbe12) (Nat.le_refl _) _ _) | exact HKX.out _ (zad (zaE hbe12 (Nat.le_refl _) _ _))) ((go_at_call 33;refine (HC1.out _).mono ?_;rintro e w12 ⟨rfl,hb12⟩;(first | have hbe12:=zac (Below.refl wr.heap.size wr) hb12 (Below.refl wr.heap.size wr).size | have hbe12:=zac (((Below.refl wr.heap.size wr)).alloc ((Below.refl wr.heap.size wr)).size _) hb12 (((Below.refl wr.heap.size wr)).alloc ((Below.refl wr.heap.size wr)).size _).size | have hbe12:=zac (zad (Below.refl wr.heap.size wr)) hb12 (zad (Below.refl wr.heap.size wr)).size | have hbe12:=zac (zad (((Below.refl wr.heap.size wr)).alloc ((Below.refl wr.heap.size wr)).size _)) hb12 (zad (((Below.refl wr.heap.size wr)).alloc ((Below.refl wr.heap.size wr)).size _)).size);(first | (have hgm6:w12.heap[wr.heap.size]? = some (Obj.cells #[.bool false,.int .i64 0] 83):=(hb12.block wr.heap.size (by (try simp only [zfI,zg2,Array.size_push]);omega)).trans (by exact heap_alloc_new wr _);obtain ⟨c0,c1,c2,c3,c4⟩:=zfy hgm6) | skip)))
              all_goals
                go_wp2
                go_meet
                first
                  | exact ct_A hbe12
                  | exact (ct_A hbe12).drew
                  | exact ct_B hbe12 hgm6
                  | exact (ct_B hbe12 hgm6).drew
                  | exact ct_B (zad hbe12) hgm6
            case rest =>
              rename World=>wf
              obtain ⟨bx,rfl,rfl,hbx,c0,c1,hbf⟩:=hcut
              have hsf:=hbf.size
              have hce4:=HCR.out.keep (hbf.block _ hgc')
              obtain ⟨e0,e1,e2,e3⟩:=hce4.get HTT.out
              dsimp only at e0 e1
              have HCE5:=Hi (zis (r:=rr.2) hce4 HTT.out)
              have hk5:=(KB.of_below (S:=fun g=>g=gc) hbf).trans ((KB.of_grown (S:=fun g=>g=gc) (zaf wf gc (k'*2) (.bool rr.2.on)) (fun b _ q=>by injection q with q;exact q.symm)).trans (KB.of_grown (zaf (wf.setCell ⟨gc,k'*2,none⟩ (.bool rr.2.on)) gc (k'*2+1) (.int .i64 rr.2.n)) (fun b _ q=>by injection q with q;exact q.symm)))
              have HK5:=Hi hk5
              have hlgc':gc<wf.heap.size:=by omega
              have hkw:(k':Int)+1≤100000:=by omega
              clear hce4 hk5 hbf HC1 r0 r1 t0 t1 z0
              go_wp2
              refine bodyPost_ret (v := .tuple #[.int .i64 rr.1,.int .i64 ((k':Int)+1)]) (by simp [results,Tryz.results12,go_sem]) rfl ?_
              rw [HR2.out]
              exact ⟨by simp,HCE5.out,HFIN.out _ HK5.out⟩
          · obtain ⟨x1,rfl⟩:=zcs (l:=A1') (by rw [List.length_cons] at hxs;omega)
            have hq2:((ks.length:Int) == 2)=true:=by rw [beq_iff_eq];omega
            have hj1:(1:Int)<(ks.length:Int):=by omega
            have z1:wr.cell? ⟨b7,o7+1,none⟩=some (.int .i64 x1):=by
              obtain ⟨b8,o8,x',hA8,-,hx8,z1⟩:=iaAt HIA.out (show 1<ks.length by omega)
              injection hA8 with hA8
              injection hA8 with hA8a hA8b
              subst hA8a
              subst hA8b
              have hxx:x1=x':=Option.some.inj (show some x1=some x' from hx8)
              rw [hxx]
              exact z1
            clear hxs
            obtain ⟨rr,hrr⟩:∃ rr,zcL op n ⟨ton,tn⟩ (x0 == 1) (x1 == 1)=rr:=⟨_,rfl⟩
            have hce:=fun W=>HCA.out (x0 == 1) (x1 == 1) W
            simp only [hrr] at hce
            have HC1:=Hi hce
            have hre2:zbF names vals op n nm ⟨[x0,x1],cs',k'⟩=⟨rr.1,cs'.set k' rr.2,k'+1⟩:=by rw [← hrr];exact HRE.out
            have HR2:=Hi hre2
            clear HRE hce hrr hre2 HCA
            go_upto_region 21 with (refine (HHD.out _).mono ?_;rintro e8 w8 ⟨rfl,rfl⟩)
            go_cut [19,20] (fun v19 v20 wf=>CtR wr rr v19 v20 wf)
            case first =>
              go_region_held3 (fun w'=>w'.cell? ⟨w.heap.size,0,none⟩=some (.int .i64 op)∧w'.cell? ⟨w.heap.size,1,none⟩=some (.int .i64 n)∧w'.cell? ⟨gc,k'*2,none⟩=some (.bool ton)∧w'.cell? ⟨gc,k'*2+1,none⟩=some (.int .i64 tn)∧w'.cell? ⟨b7,o7,none⟩=some (.int .i64 x0)) (first | exact HKX.out _ hbe12 | exact HKX.out _ (zad hbe12) | exact HKX.out _ ((hbe12).alloc (hbe12).size _) | exact HKX.out _ (zad ((hbe12).alloc (hbe12).size _)) | exact HKX.out _ (Below.refl wr.heap.size wr) | exact HKX.out _ (zad (Below.refl wr.heap.size wr)) | exact HKX.out _ (((Below.refl wr.heap.size wr)).alloc ((Below.refl wr.heap.size wr)).size _) | exact HKX.out _ (zad (((Below.refl wr.heap.size wr)).alloc ((Below.refl wr.heap.size wr)).size _)) | exact HKX.out _ (zaE hbe12 (Nat.le_refl _) _ _) | exact HKX.out _ (zaE (zad hbe12) (Nat.le_refl _) _ _) | exact HKX.out _ (zad (zaE hbe12 (Nat.le_refl _) _ _))) ((go_at_call 33;refine (HC1.out _).mono ?_;rintro e w12 ⟨rfl,hb12⟩;(first | have hbe12:=zac (Below.refl wr.heap.size wr) hb12 (Below.refl wr.heap.size wr).size | have hbe12:=zac (((Below.refl wr.heap.size wr)).alloc ((Below.refl wr.heap.size wr)).size _) hb12 (((Below.refl wr.heap.size wr)).alloc ((Below.refl wr.heap.size wr)).size _).size | have hbe12:=zac (zad (Below.refl wr.heap.size wr)) hb12 (zad (Below.refl wr.heap.size wr)).size | have hbe12:=zac (zad (((Below.refl wr.heap.size wr)).alloc ((Below.refl wr.heap.size wr)).size _)) hb12 (zad (((Below.refl wr.heap.size wr)).alloc ((Below.refl wr.heap.size wr)).size _)).size);(first | (have hgm6:w12.heap[wr.heap.size]? = some (Obj.cells #[.bool false,.int .i64 0] 83):=(hb12.block wr.heap.size (by (try simp only [zfI,zg2,Array.size_push]);omega)).trans (by exact heap_alloc_new wr _);obtain ⟨c0,c1,c2,c3,c4⟩:=zfy hgm6) | skip)))
              all_goals
                go_wp2
                go_meet
                first
                  | exact ct_A hbe12
                  | exact (ct_A hbe12).drew
                  | exact ct_B hbe12 hgm6
                  | exact (ct_B hbe12 hgm6).drew
                  | exact ct_B (zad hbe12) hgm6
            case rest =>
              rename World=>wf
              obtain ⟨bx,rfl,rfl,hbx,c0,c1,hbf⟩:=hcut
              have hsf:=hbf.size
              have hce4:=HCR.out.keep (hbf.block _ hgc')
              obtain ⟨e0,e1,e2,e3⟩:=hce4.get HTT.out
              dsimp only at e0 e1
              have HCE5:=Hi (zis (r:=rr.2) hce4 HTT.out)
              have hk5:=(KB.of_below (S:=fun g=>g=gc) hbf).trans ((KB.of_grown (S:=fun g=>g=gc) (zaf wf gc (k'*2) (.bool rr.2.on)) (fun b _ q=>by injection q with q;exact q.symm)).trans (KB.of_grown (zaf (wf.setCell ⟨gc,k'*2,none⟩ (.bool rr.2.on)) gc (k'*2+1) (.int .i64 rr.2.n)) (fun b _ q=>by injection q with q;exact q.symm)))
              have HK5:=Hi hk5
              have hlgc':gc<wf.heap.size:=by omega
              have hkw:(k':Int)+1≤100000:=by omega
              clear hce4 hk5 hbf HC1 r0 r1 t0 t1 z0
              go_wp2
              refine bodyPost_ret (v := .tuple #[.int .i64 rr.1,.int .i64 ((k':Int)+1)]) (by simp [results,Tryz.results12,go_sem]) rfl ?_
              rw [HR2.out]
              exact ⟨by simp,HCE5.out,HFIN.out _ HK5.out⟩
      obtain ⟨bb,o,op2,n2,nm2,A5,c5,ys,hA,hSb,hky,hc2,hm2,hp2,hr3,hxb⟩:=exAt (HR.out.mono ExV.mono (fun _ q=>q) HKS.out) hlk;subst hA;obtain ⟨y0,y1,y2,y3⟩:=hxb
      have hget:ks[j] = .mk op2 n2 nm2 ys:=by
        rw [List.getElem?_eq_getElem hlk] at hky;injection hky
      rw [List.drop_eq_getElem_cons hlk,hget] at hkt hko;obtain ⟨hko1,hko2⟩:=hko;have hkt2:zc3 (zaX names vals d) (ks.drop (j+1)) (xs++[(zaX names vals d (.mk op2 n2 nm2 ys) cs' k').v]) (zaX names vals d (.mk op2 n2 nm2 ys) cs' k').cs (zaX names vals d (.mk op2 n2 nm2 ys) cs' k').k=T:=hkt;have hokk:okG d (.mk op2 n2 nm2 ys):=by rw [← hget];exact HOK.out.2 _ (List.getElem_mem hlk)
      obtain ⟨d',rfl⟩:∃ d',d=d'+1:=by
        cases d with
        | zero=>exact hokk.elim
        | succ d=>exact ⟨d,rfl⟩
      have hys:ys.length≤9223372036854775807:=by unfold maxLen at hm2;omega
      have hbx:=zaa wr (Obj.cells #[.int .i64 op2,.int .i64 n2,.string ⟨nm2.toArray⟩,.slice A5 ys.length c5] 48);have hSr:∀ b,S b→b<wr.heap.size:=fun b q=>by have:=HS.out b q;omega
      have hkE:=zab (S:=S) hbx hSr
      have C1:=HIH.out d' (by omega) op2 n2 nm2 A5 c5 ys cs' k' (wr.alloc (Obj.cells #[.int .i64 op2,.int .i64 n2,.string ⟨nm2.toArray⟩,.slice A5 ys.length c5] 48)) hokk hp2 hys (fun b q=>by rw [World.size_alloc];have:=hSr b q;omega) (hr3.mono ExV.mono (fun g q=>q) hkE) hko1 (HCR.out.keep (hbx.block _ hgc')) hN
        ((HRN.out.mono NmC.mono (fun g q=>q) HKS.out).mono NmC.mono (fun g q=>q) hkE) ((HRV.out.mono IaC.mono (fun g q=>q) HKS.out).mono IaC.mono (fun g q=>q) hkE)
      unfold exV at C1;obtain ⟨tv,htv⟩:∃ tv,zaX names vals (d'+1) (.mk op2 n2 nm2 ys) cs' k'=tv:=⟨_,rfl⟩;rw [htv] at C1 hkt2 hko2;have HC1:=Hi C1;have HKT:=Hi hkt2;have HKO2:=Hi hko2;have HOW:=Hi hown;have HB2:=Hi hbx;have HXS:=Hi hxs;obtain ⟨A7,c7,hv12,-,-⟩:=zag hown;subst hv12
      have hjm:j≤1000000:=by
        have h1:=zcF HOK.out.1;have h2:zav op≤3:=by unfold zav;split;omega;split;omega;split;omega;split <;> omega
        omega
      have hbk:bb<wr.heap.size:=hSr bb hSb;have HSA:=Hi (World.size_alloc wr (Obj.cells #[.int .i64 op2,.int .i64 n2,.string ⟨nm2.toArray⟩,.slice A5 ys.length c5] 48));clear hr3 C1 hkE hky hget hokk hp2 hc2 hkt hkt2 hko1 hko2 hSb hSr htv hown hbx hxs r0 r1 r2 hxl;unfold maxLen at hm2;go_wp2_with fail
      refine HC1.out.mono ?_
      rintro e w5 ⟨rfl,hce5,hkb5⟩
      have hs5:=hkb5.size;have hsa:=HSA.out;obtain ⟨tv1,tcs,tk⟩:=tv;dsimp only at hce5;have HKT2:=Hi HKT.out;have hgc7:∀ g,(Value.slice A7 j c7).ownBlock=some g→g≠gc:=fun g q e=>by have:=(HOW.out.lt g q).1;omega
      have ho5:=zam (zbg HOW.out HB2.out (Nat.le_refl _)) (w':=w5) (fun g e hl=>hkb5.block g hl (hgc7 g e));have HO5:=Hi (ho5.alloc (Obj.cells #[.int .i64 tv1] 3));have HSR:=Hi (zaL w5 [.int .i64 tv1] 3 1 1 rfl);have HM1:=Hi (show j+1≤maxLen by unfold maxLen;omega);have HM2:=Hi (show (j+1)*8≤140737488355328 by omega);have HBS:=Hi (show w.heap.size+1≤(w5.alloc (Obj.cells #[.int .i64 tv1] 3)).heap.size by rw [World.size_alloc];omega);have HCE5:=Hi hce5;have HX5:=Hi ((hkb5.block w.heap.size (by omega) (by omega)).trans ((HB2.out.block _ hl0).trans HNX.out));have HK5:=Hi ((HKB.out.trans (KB.of_below HB2.out)).trans (hkb5.mono (T:=fun g=>g=gc∨w.heap.size+1≤g) (fun g _ q => .inl q)));have HLT:=Hi (fun g q=>(HOW.out.lt g q).1);clear ho5 hce5 hkb5 hgc7 HC1 HKT;go_wp2_with (at_builtin;refine zaj (o:=⟨some 40,_,_,_,_,_⟩) (w:=w5.alloc (Obj.cells #[.int .i64 tv1] 3)) _ _ 38 rfl rfl Tryz.underlying38 HTI.out.1 HTI.out.2.1 HTI.out.2.2.1 HTI.out.2.2.2 rfl (by decide) rfl HO5.out rfl HSR.out (by intro u hu;rw [List.mem_singleton.1 hu];rfl) HM1.out HM2.out HBS.out ?_;intro v6 w6 hown6 hg6 hv6;have HO6:=Hi hown6;have HG6:=Hi hg6;clear hown6 hg6 hv6)
      go_roundg (ks.length-j)
      case measure=>omega
      case rel =>
        have hbx5:=zaa w5 (Obj.cells #[.int .i64 tv1] 3);have hs6:=HG6.out.size;have hb6:∀ b,b<w5.heap.size→b<w.heap.size+1→w6.heap[b]? = w5.heap[b]? := fun b h1 h2=>(HG6.out.block b (Nat.lt_of_lt_of_le h1 hbx5.size) (fun q=>by have:=HLT.out b q.symm;omega)).trans (hbx5.block b h1)
        refine ⟨j+1,xs++[tv1],tcs,tk,by omega,by omega,by go_num,rfl,HKT2.out,HKO2.out,by rw [List.length_append,HXS.out];rfl,?_,(hb6 _ (by omega) (by omega)).trans HX5.out,HCE5.out.keep (hb6 _ HCE5.out.lt (by omega)),?_⟩
        · have h:=HO6.out
          simpa using h
        · exact (HK5.out.trans (KB.of_below hbx5)).trans (KB.of_grown HG6.out (fun b _ q => .inr (HLT.out b q)))
end Go.Proofs.YtcikenlflcofbaaGreatDoor
