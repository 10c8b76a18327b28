/-
 ConfiguredValues, the walk.
-/
import Derived.Test.YtjkimieapfbhbaaGreatDoorKOi
set_option maxRecDepth 100000
set_option maxHeartbeats 64000000
open Go.Value renaming slice → a, int → E, string → G, agg → Q, bool → U
open List renaming setIfInBounds_toArray → f, set_cons_zero → g, set_cons_succ → l
open Go.Act renaming put → C
open Option renaming none → D
open Go.IntKind renaming i64 → F
open Nat renaming lt_of_lt_of_le → I, le_refl → L, zero_le → X, le_trans → Y
open Go.Proofs.YtjkimieapfbhbaaGreatDoor.KB renaming setAt → J, refl → V, alloc → W
open Go.Obj renaming cells → M
open Go.Proofs.YtjkimieapfbhbaaGreatDoor.AllReadyT renaming cons → O, nil → P
open Go.Proofs.Tryz renaming prog → R
namespace Go.Proofs.YtjkimieapfbhbaaGreatDoor
open Go.RowKit
def U64 (_:World) (_:Nat) (cs:List Value) (n:Int):Prop:=cs=[E .u64 n]∧0≤n∧n≤18446744073709551615
theorem U64.mono:Mono U64:=fun _ _ _ _ _ _ _ _ h=>h
def LawR (W4:World) (base z:Nat) (cs:List Value) (vP vS:Value) (vs:List Value) (xs:List RelayX) (rev:Int) (us:List Int) (i:Value) (wr:World):Prop:=
 ∃ n:Nat,n≤us.length∧i = E F (n:Int)∧OffA wr base vP vS vs xs rev (us.take n).reverse∧KB (fun b=>b=z∨some b∈roles vP vS vs) W4 wr∧Row wr z 42 cs
def LawI (W5:World) (N:Nat) (i:Value) (wr:World):Prop:=∃ m:Nat,m≤N∧i = E F (m:Int)∧Below W5.heap.size W5 wr
theorem law_ok (B:Nat) (p:StAt) (S:StatM) (A AU:Option Addr) (cc cU:Nat) (xs:List RelayX) (us:List Int) (w:World) (hB:B≤w.heap.size) (T:Tab w) (h:ConfX w B p S A cc xs) (hU:Rws U64 1 w B AU us.length us) :
 Calls R 3 #[Q #[G S.name,a p.A1 S.buses.length p.c1,a p.A2 S.lines.length p.c2,a p.A3 S.sources.length p.c3,a p.A4 S.bays.length p.c4,a A xs.length cc],a AU us.length cU] w (zaG true w):=by
 have hb:Below w.heap.size w (w.alloc (M #[G S.name,a p.A1 S.buses.length p.c1,a p.A2 S.lines.length p.c2,a p.A3 S.sources.length p.c3,a p.A4 S.bays.length p.c4,a A xs.length cc] 30)):=zaa w _;have R0:Row (w.alloc (M #[G S.name,a p.A1 S.buses.length p.c1,a p.A2 S.lines.length p.c2,a p.A3 S.sources.length p.c3,a p.A4 S.bays.length p.c4,a A xs.length cc] 30)) w.heap.size 30 [G S.name,a p.A1 S.buses.length p.c1,a p.A2 S.lines.length p.c2,a p.A3 S.sources.length p.c3,a p.A4 S.bays.length p.c4,a A xs.length cc]:=Row.new _ _ rfl;have hsz:(w.alloc (M #[G S.name,a p.A1 S.buses.length p.c1,a p.A2 S.lines.length p.c2,a p.A3 S.sources.length p.c3,a p.A4 S.bays.length p.c4,a A xs.length cc] 30)).heap.size=w.heap.size+1:=by simp
 obtain ⟨q0,q1,q2,q3,q4,q5⟩:=kr6 R0
 have HLG:=Hd (show ∀ W',Below w.heap.size w W'→Calls R 4 #[Q #[G S.name,a p.A1 S.buses.length p.c1,a p.A2 S.lines.length p.c2,a p.A3 S.sources.length p.c3,a p.A4 S.bays.length p.c4,a A xs.length cc]] W' (NoSays (zaH (zap xs)) W') from
  fun W' hW=>zhy B p S A cc xs W' (Y hB hW.size) (h.mono (L _) (hW.mono hB)))
 have HCK:=Hd (show zaH (zap xs)→∀ W',Below w.heap.size w W'→Calls R 5 #[Q #[G S.name,a p.A1 S.buses.length p.c1,a p.A2 S.lines.length p.c2,a p.A3 S.sources.length p.c3,a p.A4 S.bays.length p.c4,a A xs.length cc]] W' (ErrSays (CfgF S xs) W') from
  fun hn W' hW=>zeW B p S A cc xs W' (Y hB hW.size) (h.mono (L _) (hW.mono hB)) hn)
 have hs:zd2 xs:=fun i x hx=>ziD h hx
 have HOP:=Hd (show zaH (zap xs)→CfgF S xs→∀ W',Below w.heap.size w W'→Calls R 6 #[Q #[G S.name,a p.A1 S.buses.length p.c1,a p.A2 S.lines.length p.c2,a p.A3 S.sources.length p.c3,a p.A4 S.bays.length p.c4,a A xs.length cc]] W' (fun e w'=>∃ A7 A8 c7 c8 base B1 vP vS vs rev,e = .returned (.tuple #[Q #[a A7 (zah xs xs.length).length c7,a A8 (zaA xs (zaD xs)).length c8,vP,vS],U true])∧Opened W' w' (zah xs xs.length) (zaA xs (zaD xs)) A7 A8 c7 c8 base B1 vP vS vs rev) from
  fun hn hF W' hW=>by
   have hx20:xs.length≤20:=by have:=hn.1;rw [zaL] at this;exact this
   refine (zj9 B p S A cc xs (zaD xs) W' (Y hB hW.size) (T.below hW T.2) (h.mono (L _) (hW.mono hB)) hn hF (zgG hF hs) (zmi hF hs hx20) (by have:=zfO hF hs hx20;omega) (zfg hF) (zin hF)).mono ?_
   rintro e w' ⟨A7,A8,c7,c8,base,B1,vP,vS,vs,rev,h1,h2⟩
   exact ⟨A7,A8,c7,c8,base,B1,vP,vS,vs,rev,h1,h2⟩)
 have HS:=Hd hs;have H:=Hd h;have HT:=Hd T;have HU:=Hd hU;have HB:=Hd hb;have HSZ:=Hd hsz;have HR:=Hd R0;clear hs h T hU hb R0 hsz;go_enter Tryz.func3,Tryz.ntmps3;go_upto_region 1 with fail
 generalize (w.alloc (M #[G S.name,a p.A1 S.buses.length p.c1,a p.A2 S.lines.length p.c2,a p.A3 S.sources.length p.c3,a p.A4 S.bays.length p.c4,a A xs.length cc] 30))=W0 at *;go_wp2_with fail
 refine (HLG.out _ HB.out).mono ?_
 rintro e w1 ⟨b,hb1,rfl,hbel⟩
 have hb01:=HB.out.trans (hbel.mono HB.out.size);have l0:w.heap.size<W0.heap.size:=HR.out.lt;obtain ⟨r0,r1,r2,r3,r4,r5⟩:=kb6 hbel l0 ⟨q0,q1,q2,q3,q4,q5⟩;have HB01:=Hd hb01;have HRW:=Hd (HR.out.below hbel HR.out.lt);clear q0 q1 q2 q3 q4 q5 hbel hb01
 cases b with
 | true =>
   clear hb1
   go_wp2
   go_ret
   exact ⟨rfl,HB01.out⟩
 | false =>
   have hn:=hb1 rfl
   have HN:=Hd hn
   clear hb1 hn
   go_wp2_with fail
   refine (HCK.out HN.out _ HB01.out).mono ?_
   rintro e w2 ⟨n,hn0,rfl,hbel⟩
   have l1:w.heap.size<w1.heap.size:=HRW.out.lt
   have hb02:=HB01.out.trans (hbel.mono HB01.out.size)
   obtain ⟨s0,s1,s2,s3,s4,s5⟩:=kb6 hbel l1 ⟨r0,r1,r2,r3,r4,r5⟩
   have HB02:=Hd hb02
   have HRX:=Hd (HRW.out.below hbel HRW.out.lt)
   clear r0 r1 r2 r3 r4 r5 hbel hb02
   by_cases hz:n=0
   · subst hz
     have HF:=Hd (hn0 rfl)
     clear hn0
     by_cases hu:us.length≤60
     · have hu1:¬ ((60:Int)<(us.length:Int)):=by omega
       go_wp2_with fail
       refine (HOP.out HN.out HF.out _ HB02.out).mono ?_
       rintro e w3 ⟨A7,A8,c7,c8,base,B1,vP,vS,vs,rev,rfl,hop⟩
       have hvl:vs.length=xs.length:=hop.len.trans (zcD _ _)
       have hTl:=zcD xs (zaD xs)
       obtain ⟨AP,cP,rfl,-,-⟩:∃ A c,vP = a A (zah xs xs.length).length c∧(zah xs xs.length).length≤c∧c≤maxLen:=by
        obtain ⟨css,g1,-⟩:=hop.off.pubs
        exact zac g1
       obtain ⟨AS,cS,rfl,-,-⟩:∃ A c,vS = a A xs.length c∧xs.length≤c∧c≤maxLen:=by
        have ho:=hop.off.outer
        rw [hvl] at ho
        exact zac ho
       have l2:w.heap.size<w2.heap.size:=HRX.out.lt
       obtain ⟨t0,t1,t2,t3,t4,t5⟩:=kb6 hop.bel l2 ⟨s0,s1,s2,s3,s4,s5⟩
       have hs3:=hop.bel.size
       have l3:w.heap.size<w3.heap.size:=by omega
       have hb4:Below w3.heap.size w3 (w3.alloc (M #[a A7 (zah xs xs.length).length c7,a A8 (zaA xs (zaD xs)).length c8,a AP (zah xs xs.length).length cP,a AS xs.length cS] 42)):=zaa w3 _
       have RZ:Row (w3.alloc (M #[a A7 (zah xs xs.length).length c7,a A8 (zaA xs (zaD xs)).length c8,a AP (zah xs xs.length).length cP,a AS xs.length cS] 42)) w3.heap.size 42 [a A7 (zah xs xs.length).length c7,a A8 (zaA xs (zaD xs)).length c8,a AP (zah xs xs.length).length cP,a AS xs.length cS]:=Row.new _ [a A7 (zah xs xs.length).length c7,a A8 (zaA xs (zaD xs)).length c8,a AP (zah xs xs.length).length cP,a AS xs.length cS] rfl
       obtain ⟨z0,z1,z2,z3⟩:=kr4 RZ
       have hs4:(w3.alloc (M #[a A7 (zah xs xs.length).length c7,a A8 (zaA xs (zaD xs)).length c8,a AP (zah xs xs.length).length cP,a AS xs.length cS] 42)).heap.size=w3.heap.size+1:=by simp
       obtain ⟨v0,v1,v2,v3,v4,v5⟩:=kb6 hb4 l3 ⟨t0,t1,t2,t3,t4,t5⟩
       have HRZ:=Hd RZ
       have HB4:=Hd hb4
       have HOPN:=Hd hop
       have HS4:=Hd hs4
       have HVL:=Hd hvl
       have HTL:=Hd hTl
       clear RZ hb4 hop hs4 hvl hTl s0 s1 s2 s3 s4 s5 t0 t1 t2 t3 t4 t5
       go_upto_region 4 with fail
       generalize (w3.alloc (M #[a A7 (zah xs xs.length).length c7,a A8 (zaA xs (zaD xs)).length c8,a AP (zah xs xs.length).length cP,a AS xs.length cS] 42))=w4 at *
       go_wp2
       have hz9:=HB4.out.size
       have hrl:∀ b,some b∈roles (a AP (zah xs xs.length).length cP) (a AS xs.length cS) vs→base≤b∧b<w3.heap.size:=fun b q=>HOPN.out.off.lt b q
       have HRL:=Hd hrl
       have hb1b:=HOPN.out.b1
       have hlo1:=HOPN.out.lo.1
       have hlo2:=HOPN.out.lo.2
       have hs02:=HB02.out.size
       have hs4':=HS4.out
       clear hrl z0 z1 z2 z3
       go_loopw [7] (LawR w4 base w3.heap.size [a A7 (zah xs xs.length).length c7,a A8 (zaA xs (zaD xs)).length c8,a AP (zah xs xs.length).length cP,a AS xs.length cS] (a AP (zah xs xs.length).length cP) (a AS xs.length cS) vs xs rev us) (fun i _=>us.length-(intOf i).toNat)
       case atStart =>
        refine ⟨0,X _,rfl,?_,V _ _,HRZ.out⟩
        exact (HOPN.out.off.below HB4.out).eq (fun _ _=>rfl) (fun i n k _ _=>(zmx _ _ _).symm)
       case round =>
        obtain ⟨n,hnu,rfl,hoff,hkb,hrow⟩:=hrel
        have hks:=hkb.size
        have lz:w3.heap.size<wr.heap.size:=by omega
        have HOFF:=Hd hoff
        have HKB:=Hd hkb
        have HROW:=Hd hrow
        clear hoff hkb hrow
        by_cases hlt:n<us.length
        · obtain ⟨bU,oU,csU,u,rfl,hbU,hu9,-,⟨rfl,hu1,hu2⟩,hat⟩:=HU.out.at_ hlt
          have lu:bU<wr.heap.size:=by omega
          have hunz:¬ (bU=w3.heap.size∨some bU∈roles (a AP (zah xs xs.length).length cP) (a AS xs.length cS) vs):=by
           rintro (q | q)
           · omega
           · have:=(HRL.out bU q).1
             omega
          have hu4:Below B w w4:=HB02.out.mono hB |>.trans ((HOPN.out.bel.mono (by omega)).trans (HB4.out.mono (by omega)))
          have u0:wr.cell? ⟨bU,oU+n,D⟩=some (E .u64 u):=(HKB.out.cell (by omega) hunz).trans ((hu4.cell (p:=⟨bU,oU+n,D⟩) hbU).trans (by simpa using hat 0 _ rfl))
          obtain ⟨z0,z1,z2,z3⟩:=kr4 HROW.out
          have hui:(n:Int)<(us.length:Int):=by omega
          have hn0:(0:Int)≤(n:Int):=by omega
          have hx20:xs.length≤20:=by have:=HN.out.1;rw [zaL] at this;exact this
          have HTK:=Hd (show (us.take (n+1)).reverse=u::(us.take n).reverse by rw [List.take_add_one,hu9];simp)
          have HSTP:=Hd (show ∀ W',Below wr.heap.size wr W'→Calls R 7 #[Q #[a A7 (zah xs xs.length).length c7,a A8 (zaA xs (zaD xs)).length c8,a AP (zah xs xs.length).length cP,a AS xs.length cS],E .u64 u] W' (fun e w'=>e = .returned (Q #[a A7 (zah xs xs.length).length c7,a A8 (zaA xs (zaD xs)).length c8,a AP (zah xs xs.length).length cP,a AS xs.length cS])∧OffA w' base (a AP (zah xs xs.length).length cP) (a AS xs.length cS) vs xs rev (us.take (n+1)).reverse∧Below base W' w'∧KB (fun b=>some b∈roles (a AP (zah xs xs.length).length cP) (a AS xs.length cS) vs) W' w') from fun W' hW=>by
           have hbw:Below B1 w3 W':=(HB4.out.mono (by omega)).trans ((HKB.out.below (by omega) fun b q=>by
            rcases q with q | q
            · omega
            · have:=(HRL.out b q).1
              omega).trans (hW.mono (by omega)))
           have h1:=zmv (s:=n) (by omega) B1 base u ⟨hu1,hu2⟩ A7 A8 c7 c8 (zaA xs (zaD xs)).length (zah xs xs.length) (a AP (zah xs xs.length).length cP) (a AS xs.length cS) vs (gRun (zah xs xs.length) rev (us.take n).reverse) (inD (zaA xs (zaD xs))) ((zaA xs (zaD xs)).map (·.2.length)) W'
            hb1b (by have:=hW.size;omega) (Rws.mono PubR.mono (L _) hbw HOPN.out.pubs) (by have:=zfO HF.out HS.out hx20;omega) (fun e he=>⟨by have:=zi0 hx20 e he;omega,zgH HF.out HS.out HN.out e he⟩) (HOFF.out.below hW) (by have:=HVL.out;omega)
            (fun m hm=>by
             obtain ⟨t,ht,rfl⟩:=List.mem_map.1 hm
             exact zin HF.out t ht) (fun i m k hi hk=>inD_lt HF.out HS.out hi hk) (fun m hm=>⟨by
             have hg:=zdv HF.out HS.out HN.out hx20 HOPN.out.rev (us.take n).reverse m hm
             have hl9:(us.take n).reverse.length=n:=by rw [List.length_reverse,List.length_take];omega
             rw [hl9] at hg
             exact hg,zib _ _⟩)
           refine h1.mono ?_
           rintro e w' ⟨rfl,q1,q2,q3⟩
           refine ⟨rfl,?_,q2,q3⟩
           rw [HTK.out]
           exact q1)
          have HU0:=Hd (show w.cell? ⟨bU,oU+n,D⟩=some (E .u64 u) from by simpa using hat 0 _ rfl)
          clear hat hu9 hu4 hunz
          go_upto_region 9 with fail
          have hznr:¬ some w3.heap.size∈roles (a AP (zah xs xs.length).length cP) (a AS xs.length cS) vs:=fun q=>by have:=(HRL.out _ q).2;omega
          refine zau (fun w'=>KB (fun b=>b=w3.heap.size∨some b∈roles (a AP (zah xs xs.length).length cP) (a AS xs.length cS) vs) wr w') (fun w'=>Below wr.heap.size wr w') 5 (by kernel_rfl) ?_
          obtain ⟨wx,hwd0⟩:∃ x,x=wr.drew:=⟨_,rfl⟩
          have hS:KB (fun b=>b=w3.heap.size∨some b∈roles (a AP (zah xs xs.length).length cP) (a AS xs.length cS) vs) wr wx:=by rw [hwd0];exact (V _ _).drew
          have hC:Below wr.heap.size wr wx:=by rw [hwd0];exact (Below.refl _ _).drew
          rw [← hwd0]
          clear hwd0
          have hCC:=hC
          refine zbO (i:=0) (v:=?_) rfl (by kernel_rfl) (by kernel_rfl) (by kernel_rfl) (by rfl) (by kernel_rfl) (by kernel_rfl) (fun _ _ _ h=>h) hS hCC (Or.inl ⟨by rfl,?yld⟩) ?_
          case yld=>(intro wq hSw;obtain ⟨e0,e1,e2,e3⟩:=kb4 hSw lz ⟨z0,z1,z2,z3⟩;go_simp <;> with_reducible rfl)
          try simp only [C,f,g,l]
          refine zam 1 rfl hS (fun _=>hCC) ?_
          try simp only [C,f,g,l]
          refine zam 2 rfl hS (fun _=>hCC) ?_
          try simp only [C,f,g,l]
          refine zam 3 rfl hS (fun _=>hCC) ?_
          try simp only [C,f,g,l]
          refine zbO (i:=4) (v:=?_) rfl (by kernel_rfl) (by kernel_rfl) (by kernel_rfl) (by rfl) (by kernel_rfl) (by kernel_rfl) (fun _ _ _ h=>h) hS hCC (Or.inl ⟨by rfl,?yld⟩) ?_
          case yld=>(intro wq hSw;have e0:=(hSw.cell (p:=⟨bU,oU+n,D⟩) lu).trans u0;go_simp <;> with_reducible rfl)
          try simp only [C,f,g,l]
          refine zad (rs:=[5]) (by kernel_rfl) (by simp) ?_
          refine O (i:=5) rfl (fun K hK => ?_) ?_
          · skip
            go_simp
            go_at_call 7
            (with_reducible refine (HSTP.out _ hCC).mono ?_)
            rintro e9 wc ⟨rfl,ho9,hb9,hk9⟩
            have HO9:=Hd ho9
            have HRC:=Hd (show Row wc w3.heap.size 42 [a A7 (zah xs xs.length).length c7,a A8 (zaA xs (zaD xs)).length c8,a AP (zah xs xs.length).length cP,a AS xs.length cS] from (hk9.block _ (I lz hCC.size) hznr).trans ((hCC.block _ lz).trans HROW.out))
            have HK9:=Hd hk9
            clear ho9 hb9
            go_wp2_with fail
            refine hK.out _ _ (hS.trans (HK9.out.mono (fun b _ q => .inr q))) (fun q=>Bool.noConfusion (show true=false from q)) (fun hS hCC => ?_)
            clear hK K
            try simp only [C,f,g,l]
            clear hk9
            refine zad (rs:=[6]) (by kernel_rfl) (by simp) ?_
            refine O (i:=6) rfl (fun K hK => ?_) ?_
            · skip
              obtain ⟨y0,y1,y2,y3⟩:=kr4 HRC.out;obtain ⟨yf0,yf1,yf2,yf3⟩:=kq4 HRC.out
              go_simp
              refine hK.out _ _ (J (J (J (J (hS) (.inl (.inl rfl)) _ _) (.inl (.inl rfl)) _ _) (.inl (.inl rfl)) _ _) (.inl (.inl rfl)) _ _) (fun q=>Bool.noConfusion (show true=false from q)) (fun hS hCC => ?_)
              clear hK K
              try simp only [C,f,g,l]
              clear y0 yf0 y1 yf1 y2 yf2 y3 yf3
              refine zaR (by kernel_rfl) ?_ _
              go_upto_region 10 with fail
              have HO5:=Hd (show OffA ((((wc.setCell ⟨w3.heap.size,0,D⟩ (a A7 (zah xs xs.length).length c7)).setCell ⟨w3.heap.size,1,D⟩ (a A8 (zaA xs (zaD xs)).length c8)).setCell ⟨w3.heap.size,2,D⟩ (a AP (zah xs xs.length).length cP)).setCell ⟨w3.heap.size,3,D⟩ (a AS xs.length cS)) base (a AP (zah xs xs.length).length cP) (a AS xs.length cS) vs xs rev (us.take (n+1)).reverse from HO9.out.box HRC.out (by intro v hv;simp only [List.mem_cons,List.not_mem_nil,or_false] at hv;rcases hv with rfl | rfl | rfl | rfl <;> exact ⟨_,_,_,rfl⟩) hznr [(0,a A7 (zah xs xs.length).length c7),(1,a A8 (zaA xs (zaD xs)).length c8),(2,a AP (zah xs xs.length).length cP),(3,a AS xs.length cS)])
              have HR5:=Hd (show Row ((((wc.setCell ⟨w3.heap.size,0,D⟩ (a A7 (zah xs xs.length).length c7)).setCell ⟨w3.heap.size,1,D⟩ (a A8 (zaA xs (zaD xs)).length c8)).setCell ⟨w3.heap.size,2,D⟩ (a AP (zah xs xs.length).length cP)).setCell ⟨w3.heap.size,3,D⟩ (a AS xs.length cS)) w3.heap.size 42 [a A7 (zah xs xs.length).length c7,a A8 (zaA xs (zaD xs)).length c8,a AP (zah xs xs.length).length cP,a AS xs.length cS] from HRC.out.sets [(0,a A7 (zah xs xs.length).length c7),(1,a A8 (zaA xs (zaD xs)).length c8),(2,a AP (zah xs xs.length).length cP),(3,a AS xs.length cS)])
              have HK5:=Hd (HKB.out.trans hS)
              clear HKB HOFF HROW HRC HO9 HK9 hC hCC hS z0 z1 z2 z3 u0 HSTP
              generalize ((((wc.setCell ⟨w3.heap.size,0,D⟩ (a A7 (zah xs xs.length).length c7)).setCell ⟨w3.heap.size,1,D⟩ (a A8 (zaA xs (zaD xs)).length c8)).setCell ⟨w3.heap.size,2,D⟩ (a AP (zah xs xs.length).length cP)).setCell ⟨w3.heap.size,3,D⟩ (a AS xs.length cS))=w5 at *
              have hcn:¬ (w.heap.size=w3.heap.size∨some w.heap.size∈roles (a AP (zah xs xs.length).length cP) (a AS xs.length cS) vs):=by
               rintro (q | q)
               · omega
               · have:=(HRL.out _ q).1
                 omega
              have c0:=(HK5.out.cell (o:=0) (by omega) hcn).trans v0
              have c1:=(HK5.out.cell (o:=1) (by omega) hcn).trans v1
              have c2:=(HK5.out.cell (o:=2) (by omega) hcn).trans v2
              have c3:=(HK5.out.cell (o:=3) (by omega) hcn).trans v3
              have c4:=(HK5.out.cell (o:=4) (by omega) hcn).trans v4
              have c5:=(HK5.out.cell (o:=5) (by omega) hcn).trans v5
              clear hcn
              go_wp2
              go_loopw [8] (LawI w5 xs.length) (fun i _=>xs.length-(intOf i).toNat)
              case atStart=>exact ⟨0,X _,rfl,Below.refl _ _⟩
              case round =>
               obtain ⟨m,hmn,rfl,hbw⟩:=hrel
               have k5:=(hbw.cell (p:=⟨w.heap.size,5,D⟩) (I (show w.heap.size<w4.heap.size by omega) HK5.out.size)).trans c5
               have HBW:=Hd hbw
               clear hbw
               by_cases hml:m<xs.length
               · obtain ⟨x,hxm⟩:∃ x,xs[m]? = some x:=⟨_,List.getElem?_eq_getElem hml⟩
                 clear k5
                 have hpos:0<xs.length:=by omega
                 have HBA:=Hd (show Below B w w5 from ((HB02.out.mono hB).trans ((HOPN.out.bel.mono (by omega)).trans (HB4.out.mono (by omega)))).trans (HK5.out.below (by omega) (fun b qq=>by
                  rcases qq with qq | qq
                  · omega
                  · have:=(HRL.out b qq).1
                    omega)))
                 have HBT:=Hd (show Below B1 w3 w5 from (HB4.out.mono (by omega)).trans (HK5.out.below (by omega) (fun b qq=>by
                  rcases qq with qq | qq
                  · omega
                  · have:=(HRL.out b qq).1
                    omega)))
                 have ho5:=HO5.out
                 rw [HTK.out] at ho5
                 obtain ⟨gS,hAS,hgS,hofa⟩:=zlj ho5 HVL.out hpos
                 subst hAS
                 obtain ⟨Av,cv,hv0,hvk⟩:=hofa m x hxm
                 obtain ⟨bC,oC,hAC,hbC,hcr⟩:=zi4 H.out hpos
                 subst hAC
                 obtain ⟨Ax,cx,hs0,hsb⟩:=hcr m x hxm
                 obtain ⟨bT,oT,hAT,hbT,htr⟩:=zlu HOPN.out.tabs hpos
                 subst hAT
                 obtain ⟨Am,cm,AIm,cIm,-,tm2,-,hIm⟩:=htr m x hxm
                 have hsn:x.r.subs.length≤24:=(HF.out.rels m x hxm).count.subs
                 have LC:w.heap.size<w5.heap.size:=I (show w.heap.size<w4.heap.size by omega) HK5.out.size
                 have LB:bC<w5.heap.size:=by omega
                 have LT:bT<w5.heap.size:=by have:=HBT.out.size;omega
                 have LU:bU<w5.heap.size:=by omega
                 have bc0:=Hd (show w5.cell? ⟨w.heap.size,0,D⟩=some (G S.name) from c0)
                 have bc1:=Hd (show w5.cell? ⟨w.heap.size,1,D⟩=some (a p.A1 S.buses.length p.c1) from c1)
                 have bc2:=Hd (show w5.cell? ⟨w.heap.size,2,D⟩=some (a p.A2 S.lines.length p.c2) from c2)
                 have bc3:=Hd (show w5.cell? ⟨w.heap.size,3,D⟩=some (a p.A3 S.sources.length p.c3) from c3)
                 have bc4:=Hd (show w5.cell? ⟨w.heap.size,4,D⟩=some (a p.A4 S.bays.length p.c4) from c4)
                 have bc5:=Hd (show w5.cell? ⟨w.heap.size,5,D⟩=some (a (some ⟨bC,oC,D⟩) xs.length cc) from c5)
                 have bz1:=Hd (show w5.cell? ⟨w3.heap.size,1,D⟩=some (a (some ⟨bT,oT,D⟩) (zaA xs (zaD xs)).length c8) from Row.cell HR5.out rfl)
                 have bz3:=Hd (show w5.cell? ⟨w3.heap.size,3,D⟩=some (a (some ⟨gS,0,D⟩) xs.length cS) from Row.cell HR5.out rfl)
                 have bv0:=Hd (show w5.cell? ⟨gS,m,D⟩=some (a Av x.r.subs.length cv) from hv0)
                 have bD1:=Hd (show w5.cell? ⟨bC,oC+m*53+52,D⟩=some (a Ax x.r.subs.length cx) from (HBA.out.cell (p:=⟨bC,oC+m*53+52,D⟩) hbC).trans hs0)
                 have bT2:=Hd (show w5.cell? ⟨bT,oT+m*3+2,D⟩=some (a AIm x.r.subs.length cIm) from (HBT.out.cell (p:=⟨bT,oT+m*3+2,D⟩) hbT).trans tm2)
                 have HVK:=Hd hvk
                 have HSB:=Hd hsb
                 have HTR:=Hd htr
                 have HIM:=Hd hIm
                 have HX:=Hd hxm
                 clear c0 c1 c2 c3 c4 c5 hvk hsb htr tm2 hIm hxm hofa hcr ho5 hv0 hs0
                 have hmi:(m:Int)<(xs.length:Int):=by omega
                 have hm0:(0:Int)≤(m:Int):=by omega
                 have c5:=(HBW.out.cell (p:=⟨w.heap.size,5,D⟩) LC).trans bc5.out
                 have z3:=(HBW.out.cell (p:=⟨w3.heap.size,3,D⟩) HR5.out.lt).trans bz3.out
                 have v0:=(HBW.out.cell (p:=⟨gS,m,D⟩) hgS).trans bv0.out
                 have D1:=(HBW.out.cell (p:=⟨bC,oC+m*53+52,D⟩) LB).trans bD1.out
                 go_upto_region 13 with fail
                 refine zau (fun w'=>KB (fun _=>False) wr w') (fun w'=>KB (fun _=>False) wr w') 99 (by kernel_rfl) ?_
                 obtain ⟨wt,hwd0⟩:∃ x,x=wr.drew:=⟨_,rfl⟩
                 have hS:KB (fun _=>False) wr wt:=by rw [hwd0];exact (V _ _).drew
                 rw [← hwd0]
                 clear hwd0
                 have hC:=hS
                 have hCC:=hS
                 refine zam 0 rfl hS (fun _=>hCC) ?_
                 try simp only [C,f,g,l]
                 refine zaS 1 ?_ rfl hS (fun _=>hCC) ?yld ?_
                 case yld=>(intro wq hSw;have ez3:=(hSw.cell (o:=3) (I HR5.out.lt HBW.out.size) (fun q=>q)).trans z3;go_simp <;> with_reducible rfl)
                 try simp only [C,f,g,l]
                 refine zam 2 rfl hS (fun _=>hCC) ?_
                 try simp only [C,f,g,l]
                 refine zam 3 rfl hS (fun _=>hCC) ?_
                 try simp only [C,f,g,l]
                 refine zaS 4 ?_ rfl hS (fun _=>hCC) ?yld ?_
                 case yld=>(intro wq hSw;have ev0:=(hSw.cell (o:=m) (I hgS HBW.out.size) (fun q=>q)).trans v0;go_simp <;> with_reducible rfl)
                 try simp only [C,f,g,l]
                 refine zam 5 rfl hS (fun _=>hCC) ?_
                 try simp only [C,f,g,l]
                 refine zam 6 rfl hS (fun _=>hCC) ?_
                 try simp only [C,f,g,l]
                 refine zaS 7 ?_ rfl hS (fun _=>hCC) ?yld ?_
                 case yld=>(intro wq hSw;have ec5:=(hSw.cell (o:=5) (I LC HBW.out.size) (fun q=>q)).trans c5;go_simp <;> with_reducible rfl)
                 try simp only [C,f,g,l]
                 refine zam 8 rfl hS (fun _=>hCC) ?_
                 try simp only [C,f,g,l]
                 refine zam 9 rfl hS (fun _=>hCC) ?_
                 try simp only [C,f,g,l]
                 refine zam 10 rfl hS (fun _=>hCC) ?_
                 try simp only [C,f,g,l]
                 refine zaS 11 ?_ rfl hS (fun _=>hCC) ?yld ?_
                 case yld=>(intro wq hSw;have eD1:=(hSw.cell (o:=oC+m*53+52) (I LB HBW.out.size) (fun q=>q)).trans D1;go_simp <;> with_reducible rfl)
                 try simp only [C,f,g,l]
                 refine zam 12 rfl hS (fun _=>hCC) ?_
                 try simp only [C,f,g,l]
                 refine zam 13 rfl hS (fun _=>hCC) ?_
                 try simp only [C,f,g,l]
                 refine zaR (by kernel_rfl) ?_ _
                 go_upto_region 15 with fail
                 have HBW:=Hd (HBW.out.trans ((hC.below (L _) (fun _ qf=>qf.elim)).mono HBW.out.size))
                 clear hS hC hCC
                 clear c5 z3 v0 D1
                 go_wp2
                 go_loopw [9] (LawI w5 x.r.subs.length) (fun i _=>x.r.subs.length-(intOf i).toNat)
                 case atStart=>exact ⟨0,X _,rfl,HBW.out⟩
                 case round =>
                  clear HBW
                  obtain ⟨k,hkn,rfl,hbw⟩:=hrel
                  have HBW:=Hd hbw
                  clear hbw
                  have z3:=(HBW.out.cell (p:=⟨w3.heap.size,3,D⟩) HR5.out.lt).trans bz3.out
                  have v0:=(HBW.out.cell (p:=⟨gS,m,D⟩) hgS).trans bv0.out
                  by_cases hkl:k<x.r.subs.length
                  · obtain ⟨y,d,j,z,n0,oo,hy,hz,hidx,hins,hinD,hout,ho36,hol,hj24,q1,q2,q3,q4,q5⟩:=zjV HF.out HS.out HN.out hx20 HOPN.out.rev HX.out hkl u (us.take n).reverse
                    obtain ⟨gv,Aq,cq,hAv,hgv,hcl,hrw⟩:=HVK.out k hkl
                    rw [hinD] at hcl hrw
                    generalize zaB (gRun (zah xs xs.length) rev (u::(us.take n).reverse) n0)=q at *
                    subst hAv
                    obtain ⟨bX,oX,csX,y',hAX,hbX,hy',-,⟨rfl,-⟩,hatX⟩:=HSB.out.at_ hkl
                    subst hAX
                    rw [hy] at hy'
                    obtain rfl:=Option.some.inj hy'
                    obtain ⟨Ad,cd,AId,cId,td0,-,hOd,-⟩:=HTR.out d z hz
                    obtain ⟨bI,oI,csI,y'',hAI,hbI,hy'',-,rfl,hatI⟩:=HIM.out.at_ hkl
                    subst hAI
                    rw [hins] at hy''
                    obtain rfl:=Option.some.inj hy''
                    have LX:bX<w5.heap.size:=by omega
                    have LI:bI<w5.heap.size:=by have:=HBT.out.size;omega
                    have hdx:=(List.getElem?_eq_some_iff.1 hz).1
                    have bU0:=Hd (show w5.cell? ⟨bU,oU+n,D⟩=some (E .u64 u) from (HBA.out.cell (p:=⟨bU,oU+n,D⟩) hbU).trans HU0.out)
                    have bs0:=Hd (show w5.cell? ⟨bX,oX+k*4,D⟩=some (G y.loc) from (HBA.out.cell (p:=⟨bX,oX+k*4,D⟩) hbX).trans (by simpa using hatX 0 _ rfl))
                    have bs1:=Hd (show w5.cell? ⟨bX,oX+k*4+1,D⟩=some (G y.device) from (HBA.out.cell (p:=⟨bX,oX+k*4+1,D⟩) hbX).trans (by simpa using hatX 1 _ rfl))
                    have bs2:=Hd (show w5.cell? ⟨bX,oX+k*4+2,D⟩=some (G y.set) from (HBA.out.cell (p:=⟨bX,oX+k*4+2,D⟩) hbX).trans (by simpa using hatX 2 _ rfl))
                    have bs3:=Hd (show w5.cell? ⟨bX,oX+k*4+3,D⟩=some (G y.signal) from (HBA.out.cell (p:=⟨bX,oX+k*4+3,D⟩) hbX).trans (by simpa using hatX 3 _ rfl))
                    have be0:=Hd (show w5.cell? ⟨gv,k*9,D⟩=some (E F q.pub) from hcl 0 _ rfl)
                    have be1:=Hd (show w5.cell? ⟨gv,k*9+1,D⟩=some (E F q.rev) from hcl 1 _ rfl)
                    have be2:=Hd (show w5.cell? ⟨gv,k*9+2,D⟩=some (U q.known) from hcl 2 _ rfl)
                    have be3:=Hd (show w5.cell? ⟨gv,k*9+3,D⟩=some (E F q.state) from hcl 3 _ rfl)
                    have be4:=Hd (show w5.cell? ⟨gv,k*9+4,D⟩=some (E F q.seq) from hcl 4 _ rfl)
                    have be5:=Hd (show w5.cell? ⟨gv,k*9+5,D⟩=some (E F q.left) from hcl 5 _ rfl)
                    have be6:=Hd (show w5.cell? ⟨gv,k*9+6,D⟩=some (E F q.lost) from hcl 6 _ rfl)
                    have be7:=Hd (show w5.cell? ⟨gv,k*9+7,D⟩=some (U q.test) from hcl 7 _ rfl)
                    have be8:=Hd (show w5.cell? ⟨gv,k*9+8,D⟩=some (a Aq q.vals.length cq) from hcl 8 _ rfl)
                    have bT0:=Hd (show w5.cell? ⟨bT,oT+d*3,D⟩=some (a Ad z.r.outputs.length cd) from (HBT.out.cell (p:=⟨bT,oT+d*3,D⟩) hbT).trans td0)
                    have bI1:=Hd (show w5.cell? ⟨bI,oI+k*2+1,D⟩=some (E F (j:Int)) from (HBT.out.cell (p:=⟨bI,oI+k*2+1,D⟩) hbI).trans (hatI 1 _ rfl))
                    have hki:(k:Int)<(x.r.subs.length:Int):=by omega
                    have hk0:(0:Int)≤(k:Int):=by omega
                    have HTLn:=HTL.out
                    have hmT:(m:Int)<((zaA xs (zaD xs)).length:Int):=by omega
                    have hdT:(d:Int)<((zaA xs (zaD xs)).length:Int):=by omega
                    have hd0:(0:Int)≤(d:Int):=by omega
                    have hdk:d≤1000:=by omega
                    clear HTLn
                    have HLOST:=Hd q4
                    have HREL:=Hd (show ∀ W',Below w5.heap.size w5 W'→Calls R 8 #[Q #[G S.name,a p.A1 S.buses.length p.c1,a p.A2 S.lines.length p.c2,a p.A3 S.sources.length p.c3,a p.A4 S.bays.length p.c4,a (some ⟨bC,oC,D⟩) xs.length cc],G y.device] W' (zaU (d:Int) W') from fun W' hW=>by
                     have:=zlq B p S (some ⟨bC,oC,D⟩) cc xs y.device W' (by have:=HBA.out.size;have:=hW.size;omega) (H.out.mono (L _) (HBA.out.trans (hW.mono (by omega)))) hx20
                     rw [hidx] at this
                     exact this)
                    have HIDX:=Hd (show ∀ W',Below w5.heap.size w5 W'→Calls R 10 #[a Ad z.r.outputs.length cd,G y.signal] W' (zaU (oo:Int) W') from fun W' hW=>by
                     have:=zk5 Ad cd B1 z.r.outputs y.signal W' (by have:=HBT.out.size;have:=hW.size;omega) (hOd.mono StrC.mono (L _) (HBT.out.trans (hW.mono (by have:=HBT.out.size;omega)))) (by omega)
                     rw [hout] at this
                     exact this)
                    have hbit:=zlG u ⟨hu1,hu2⟩ d oo hdk (by omega)
                    generalize bitP u d oo=bt at *
                    have HBIT:=Hd (show ∀ W',Calls R 9 #[E .u64 u,E F (d:Int),E F (oo:Int)] W' (fun e w'=>e = .returned (U bt)∧W'=w') from fun W'=>(hbit W').mono fun e w' h=>⟨h.1,h.2.symm⟩)
                    have HRD:=Hd (show ∀ W',Below w5.heap.size w5 W'→Calls R 11 #[Q #[E F q.pub,E F q.rev,U q.known,E F q.state,E F q.seq,E F q.left,E F q.lost,U q.test,a Aq q.vals.length cq],E F (j:Int)] W' (fun e w'=>e = .returned (.tuple #[Q #[E F 1,E F (truN bt),G ⟨#[]⟩,E F 0,E F 0,E F 0],U true])∧Below W'.heap.size W' w') from fun W' hW =>
                     zmq q Aq cq w5.heap.size j bt W' hW.size (Rws.mono (fun _ _ _ _ _ _ _ _ h=>h) (L _) hW hrw) q1 q2 q3 q5)
                    clear hbit hrw hOd hidx hout hins hinD q1 q2 q3 q4 q5 hatX hatI hcl td0 hy hz
                    have c5:=(HBW.out.cell (p:=⟨w.heap.size,5,D⟩) LC).trans bc5.out
                    have D1:=(HBW.out.cell (p:=⟨bC,oC+m*53+52,D⟩) LB).trans bD1.out
                    obtain ⟨s0,s1,s2,s3⟩:=kb4 HBW.out LX ⟨bs0.out,bs1.out,bs2.out,bs3.out⟩
                    go_upto_region 19 with fail
                    have hb6:Below wr.heap.size wr (wr.alloc (M #[G y.loc,G y.device,G y.set,G y.signal] 62)):=zaa wr (M #[G y.loc,G y.device,G y.set,G y.signal] 62)
                    have HRS:=Hd (show Row (wr.alloc (M #[G y.loc,G y.device,G y.set,G y.signal] 62)) wr.heap.size 62 [G y.loc,G y.device,G y.set,G y.signal] from Row.new _ [G y.loc,G y.device,G y.set,G y.signal] rfl)
                    have HB6:=Hd (HBW.out.trans (hb6.mono HBW.out.size))
                    clear hb6 z3 v0 c5 D1 s0 s1 s2 s3
                    generalize wr.alloc (M #[G y.loc,G y.device,G y.set,G y.signal] 62)=w6 at *
                    obtain ⟨c0,c1,c2,c3,c4,c5⟩:=kb6 HB6.out LC ⟨bc0.out,bc1.out,bc2.out,bc3.out,bc4.out,bc5.out⟩
                    have x1:=Row.cell (k:=1) (v := G y.device) HRS.out rfl
                    go_wp2_with fail
                    refine (HREL.out _ HB6.out).mono ?_
                    rintro e w7 ⟨rfl,hb7⟩
                    have HB7:=Hd (HB6.out.trans (hb7.mono HB6.out.size))
                    have HR7:=Hd (HRS.out.below hb7 HRS.out.lt)
                    clear c0 c1 c2 c3 c4 c5 x1 hb7 HRS HB6
                    have z1:=(HB7.out.cell (p:=⟨w3.heap.size,1,D⟩) HR5.out.lt).trans bz1.out
                    have T2:=(HB7.out.cell (p:=⟨bT,oT+m*3+2,D⟩) LT).trans bT2.out
                    go_upto_region 22 with fail
                    clear z1 T2
                    have U0:=(HB7.out.cell (p:=⟨bU,oU+n,D⟩) LU).trans bU0.out
                    have z1:=(HB7.out.cell (p:=⟨w3.heap.size,1,D⟩) HR5.out.lt).trans bz1.out
                    have T0:=(HB7.out.cell (p:=⟨bT,oT+d*3,D⟩) LT).trans bT0.out
                    have x3:=Row.cell (k:=3) (v := G y.signal) HR7.out rfl
                    refine zau (fun w'=>KB (fun _=>False) w7 w') (fun w'=>KB (fun _=>False) w7 w') 99 (by kernel_rfl) ?_
                    obtain ⟨wx2,hwd0⟩:∃ x,x=w7.drew:=⟨_,rfl⟩
                    have hS:KB (fun _=>False) w7 wx2:=by rw [hwd0];exact (V _ _).drew
                    rw [← hwd0]
                    clear hwd0
                    have hC:=hS
                    have hCC:=hS
                    refine zam 0 rfl hS (fun _=>hCC) ?_
                    try simp only [C,f,g,l]
                    refine zam 1 rfl hS (fun _=>hCC) ?_
                    try simp only [C,f,g,l]
                    refine zam 2 rfl hS (fun _=>hCC) ?_
                    try simp only [C,f,g,l]
                    refine zaS 3 ?_ rfl hS (fun _=>hCC) ?yld ?_
                    case yld=>(intro wq hSw;have eU0:=(hSw.cell (o:=oU+n) (I LU HB7.out.size) (fun q=>q)).trans U0;go_simp <;> with_reducible rfl)
                    try simp only [C,f,g,l]
                    refine zam 4 rfl hS (fun _=>hCC) ?_
                    try simp only [C,f,g,l]
                    refine zam 5 rfl hS (fun _=>hCC) ?_
                    try simp only [C,f,g,l]
                    refine zam 6 rfl hS (fun _=>hCC) ?_
                    try simp only [C,f,g,l]
                    refine zaS 7 ?_ rfl hS (fun _=>hCC) ?yld ?_
                    case yld=>(intro wq hSw;have ez1:=(hSw.cell (o:=1) (I HR5.out.lt HB7.out.size) (fun q=>q)).trans z1;go_simp <;> with_reducible rfl)
                    try simp only [C,f,g,l]
                    refine zam 8 rfl hS (fun _=>hCC) ?_
                    try simp only [C,f,g,l]
                    refine zam 9 rfl hS (fun _=>hCC) ?_
                    try simp only [C,f,g,l]
                    refine zam 10 rfl hS (fun _=>hCC) ?_
                    try simp only [C,f,g,l]
                    refine zaS 11 ?_ rfl hS (fun _=>hCC) ?yld ?_
                    case yld=>(intro wq hSw;have eT0:=(hSw.cell (o:=oT+d*3) (I LT HB7.out.size) (fun q=>q)).trans T0;go_simp <;> with_reducible rfl)
                    try simp only [C,f,g,l]
                    refine zam 12 rfl hS (fun _=>hCC) ?_
                    try simp only [C,f,g,l]
                    refine zaS 13 ?_ rfl hS (fun _=>hCC) ?yld ?_
                    case yld=>(intro wq hSw;have ex3:=(hSw.cell (o:=3) HR7.out.lt (fun q=>q)).trans x3;go_simp <;> with_reducible rfl)
                    try simp only [C,f,g,l]
                    refine zad (rs:=[14]) (by kernel_rfl) (by simp) ?_
                    refine O (i:=14) rfl (fun K hK => ?_) ?_
                    · skip
                      go_simp
                      go_at_call 10
                      (with_reducible refine (HIDX.out _ (HB7.out.trans ((hC.below (L _) (fun _ qf=>qf.elim)).mono HB7.out.size))).mono ?_)
                      rintro e9 wc ⟨rfl,hb9⟩
                      have hC9:=hC.thenB hb9
                      go_wp2_with fail
                      refine hK.out _ _ (hC9) (fun _=>hC9) (fun hS hCC => ?_)
                      have hCC:=hCC rfl
                      have hC:=hCC
                      clear hK K
                      try simp only [C,f,g,l]
                      clear hb9
                      refine zad (rs:=[15]) (by kernel_rfl) (by simp) ?_
                      refine O (i:=15) rfl (fun K hK => ?_) ?_
                      · skip
                        go_simp
                        go_at_call 9
                        (with_reducible refine (HBIT.out _).mono ?_)
                        rintro e9 w9 ⟨rfl,hw9⟩
                        subst hw9
                        go_wp2_with fail
                        refine hK.out _ _ (hS) (fun _=>hCC) (fun hS hCC => ?_)
                        have hCC:=hCC rfl
                        have hC:=hCC
                        clear hK K
                        try simp only [C,f,g,l]
                        refine zam 16 rfl hS (fun _=>hCC) ?_
                        try simp only [C,f,g,l]
                        refine zaR (by kernel_rfl) ?_ _
                        have HB8:=Hd (HB7.out.trans ((hC.below (L _) (fun _ qf=>qf.elim)).mono HB7.out.size))
                        clear U0 z1 T0 x3 hC hCC hS HR7 HREL HIDX HBIT
                        go_upto_region 23 with fail
                        have z3:=(HB8.out.cell (p:=⟨w3.heap.size,3,D⟩) HR5.out.lt).trans bz3.out
                        have v0:=(HB8.out.cell (p:=⟨gS,m,D⟩) hgS).trans bv0.out
                        have z1:=(HB8.out.cell (p:=⟨w3.heap.size,1,D⟩) HR5.out.lt).trans bz1.out
                        have T2:=(HB8.out.cell (p:=⟨bT,oT+m*3+2,D⟩) LT).trans bT2.out
                        have I1:=(HB8.out.cell (p:=⟨bI,oI+k*2+1,D⟩) LI).trans bI1.out
                        obtain ⟨e0,e1,e2,e3,e4,e5⟩:=kb6 HB8.out hgv ⟨be0.out,be1.out,be2.out,be3.out,be4.out,be5.out⟩;obtain ⟨e6,e7,e8⟩:=kb3 HB8.out hgv ⟨be6.out,be7.out,be8.out⟩
                        refine zau (fun w'=>KB (fun _=>False) wc w') (fun w'=>KB (fun _=>False) wc w') 99 (by kernel_rfl) ?_
                        obtain ⟨wy,hwd0⟩:∃ x,x=wc.drew:=⟨_,rfl⟩
                        have hS:KB (fun _=>False) wc wy:=by rw [hwd0];exact (V _ _).drew
                        rw [← hwd0]
                        clear hwd0
                        have hC:=hS
                        have hCC:=hS
                        refine zam 0 rfl hS (fun _=>hCC) ?_
                        try simp only [C,f,g,l]
                        refine zaS 1 ?_ rfl hS (fun _=>hCC) ?yld ?_
                        case yld=>(intro wq hSw;have ez3:=(hSw.cell (o:=3) (I HR5.out.lt HB8.out.size) (fun q=>q)).trans z3;go_simp <;> with_reducible rfl)
                        try simp only [C,f,g,l]
                        refine zam 2 rfl hS (fun _=>hCC) ?_
                        try simp only [C,f,g,l]
                        refine zam 3 rfl hS (fun _=>hCC) ?_
                        try simp only [C,f,g,l]
                        refine zaS 4 ?_ rfl hS (fun _=>hCC) ?yld ?_
                        case yld=>(intro wq hSw;have ev0:=(hSw.cell (o:=m) (I hgS HB8.out.size) (fun q=>q)).trans v0;go_simp <;> with_reducible rfl)
                        try simp only [C,f,g,l]
                        refine zam 5 rfl hS (fun _=>hCC) ?_
                        try simp only [C,f,g,l]
                        refine zam 6 rfl hS (fun _=>hCC) ?_
                        try simp only [C,f,g,l]
                        refine zaS 7 ?_ rfl hS (fun _=>hCC) ?yld ?_
                        case yld=>(intro wq hSw;have ee0:=(hSw.cell (o:=k*9) (I hgv HB8.out.size) (fun q=>q)).trans e0;have ee1:=(hSw.cell (o:=k*9+1) (I hgv HB8.out.size) (fun q=>q)).trans e1;have ee2:=(hSw.cell (o:=k*9+2) (I hgv HB8.out.size) (fun q=>q)).trans e2;have ee3:=(hSw.cell (o:=k*9+3) (I hgv HB8.out.size) (fun q=>q)).trans e3;have ee4:=(hSw.cell (o:=k*9+4) (I hgv HB8.out.size) (fun q=>q)).trans e4;have ee5:=(hSw.cell (o:=k*9+5) (I hgv HB8.out.size) (fun q=>q)).trans e5;have ee6:=(hSw.cell (o:=k*9+6) (I hgv HB8.out.size) (fun q=>q)).trans e6;have ee7:=(hSw.cell (o:=k*9+7) (I hgv HB8.out.size) (fun q=>q)).trans e7;have ee8:=(hSw.cell (o:=k*9+8) (I hgv HB8.out.size) (fun q=>q)).trans e8;go_simp <;> with_reducible rfl)
                        try simp only [C,f,g,l]
                        refine zam 8 rfl hS (fun _=>hCC) ?_
                        try simp only [C,f,g,l]
                        refine zam 9 rfl hS (fun _=>hCC) ?_
                        try simp only [C,f,g,l]
                        refine zaS 10 ?_ rfl hS (fun _=>hCC) ?yld ?_
                        case yld=>(intro wq hSw;have ez1:=(hSw.cell (o:=1) (I HR5.out.lt HB8.out.size) (fun q=>q)).trans z1;go_simp <;> with_reducible rfl)
                        try simp only [C,f,g,l]
                        refine zam 11 rfl hS (fun _=>hCC) ?_
                        try simp only [C,f,g,l]
                        refine zam 12 rfl hS (fun _=>hCC) ?_
                        try simp only [C,f,g,l]
                        refine zam 13 rfl hS (fun _=>hCC) ?_
                        try simp only [C,f,g,l]
                        refine zaS 14 ?_ rfl hS (fun _=>hCC) ?yld ?_
                        case yld=>(intro wq hSw;have eT2:=(hSw.cell (o:=oT+m*3+2) (I LT HB8.out.size) (fun q=>q)).trans T2;go_simp <;> with_reducible rfl)
                        try simp only [C,f,g,l]
                        refine zam 15 rfl hS (fun _=>hCC) ?_
                        try simp only [C,f,g,l]
                        refine zam 16 rfl hS (fun _=>hCC) ?_
                        try simp only [C,f,g,l]
                        refine zam 17 rfl hS (fun _=>hCC) ?_
                        try simp only [C,f,g,l]
                        refine zaS 18 ?_ rfl hS (fun _=>hCC) ?yld ?_
                        case yld=>(intro wq hSw;have eI1:=(hSw.cell (o:=oI+k*2+1) (I LI HB8.out.size) (fun q=>q)).trans I1;go_simp <;> with_reducible rfl)
                        try simp only [C,f,g,l]
                        refine zad (rs:=[19,23]) (by kernel_rfl) (by simp) ?_
                        refine O (i:=19) rfl (fun K hK => ?_) ?_
                        · skip
                          go_simp
                          go_at_call 11
                          (with_reducible refine (HRD.out _ (HB8.out.trans ((hC.below (L _) (fun _ qf=>qf.elim)).mono HB8.out.size))).mono ?_)
                          rintro e9 wd1 ⟨rfl,hb9⟩
                          have hC9:=hC.thenB hb9
                          go_wp2_with fail
                          refine hK.out _ _ (hC9) (fun _=>hC9) (fun hS hCC => ?_)
                          have hCC:=hCC rfl
                          have hC:=hCC
                          clear hK K
                          try simp only [C,f,g,l]
                          clear hb9
                          refine zam 20 rfl hS (fun _=>hCC) ?_
                          try simp only [C,f,g,l]
                          refine zam 21 rfl hS (fun _=>hCC) ?_
                          try simp only [C,f,g,l]
                          refine zam 22 rfl hS (fun _=>hCC) ?_
                          try simp only [C,f,g,l]
                          refine zad (rs:=[23]) (by kernel_rfl) (by simp) ?_
                          refine O (i:=23) rfl (fun K hK => ?_) ?_
                          · skip
                            have hz8:=hC.size
                            go_simp
                            refine hK.out _ _ (W hS _) (fun _=>W hC _) (fun hS hCC => ?_)
                            have hCC:=hCC rfl
                            have hC:=hCC
                            clear hK K
                            try simp only [C,f,g,l]
                            have HRQ:=Hd (Row.new (w:=wd1) (t := 73) wd1.heap.size [E F 0,E F 0,G ⟨#[]⟩,E F 0,E F 0,E F 0] rfl)
                            have hq8:wc.heap.size≤wd1.heap.size:=hz8
                            generalize wd1.alloc (M #[E F 0,E F 0,G ⟨#[]⟩,E F 0,E F 0,E F 0] 73)=we2 at *
                            refine zad (rs:=[24]) (by kernel_rfl) (by simp) ?_
                            refine O (i:=24) rfl (fun K hK => ?_) ?_
                            · skip
                              obtain ⟨y0,y1,y2,y3,y4,y5⟩:=kr6 HRQ.out;obtain ⟨yf0,yf1,yf2,yf3,yf4,yf5⟩:=kq6 HRQ.out
                              go_simp
                              refine hK.out _ _ (J (J (J (J (J (J (hS) (.inr hq8) _ _) (.inr hq8) _ _) (.inr hq8) _ _) (.inr hq8) _ _) (.inr hq8) _ _) (.inr hq8) _ _) (fun _=>J (J (J (J (J (J (hC) (.inr hq8) _ _) (.inr hq8) _ _) (.inr hq8) _ _) (.inr hq8) _ _) (.inr hq8) _ _) (.inr hq8) _ _) (fun hS hCC => ?_)
                              have hCC:=hCC rfl
                              have hC:=hCC
                              clear hK K
                              try simp only [C,f,g,l]
                              clear y0 yf0 y1 yf1 y2 yf2 y3 yf3 y4 yf4 y5 yf5
                              have HRQ:=Hd (show Row ((((((we2.setCell ⟨wd1.heap.size,0,D⟩ (E F 1)).setCell ⟨wd1.heap.size,1,D⟩ (E F (truN bt))).setCell ⟨wd1.heap.size,2,D⟩ (G ⟨#[]⟩)).setCell ⟨wd1.heap.size,3,D⟩ (E F 0)).setCell ⟨wd1.heap.size,4,D⟩ (E F 0)).setCell ⟨wd1.heap.size,5,D⟩ (E F 0)) wd1.heap.size 73 [E F 1,E F (truN bt),G ⟨#[]⟩,E F 0,E F 0,E F 0] from HRQ.out.sets [(0,E F 1),(1,E F (truN bt)),(2,G ⟨#[]⟩),(3,E F 0),(4,E F 0),(5,E F 0)])
                              generalize ((((((we2.setCell ⟨wd1.heap.size,0,D⟩ (E F 1)).setCell ⟨wd1.heap.size,1,D⟩ (E F (truN bt))).setCell ⟨wd1.heap.size,2,D⟩ (G ⟨#[]⟩)).setCell ⟨wd1.heap.size,3,D⟩ (E F 0)).setCell ⟨wd1.heap.size,4,D⟩ (E F 0)).setCell ⟨wd1.heap.size,5,D⟩ (E F 0))=wf3 at *
                              refine zam 25 rfl hS (fun _=>hCC) ?_
                              try simp only [C,f,g,l]
                              refine zaR (by kernel_rfl) ?_ _
                              have HBX:=Hd (HB8.out.trans ((hC.below (L _) (fun _ qf=>qf.elim)).mono HB8.out.size))
                              clear z3 v0 z1 T2 I1 e0 e1 e2 e3 e4 e5 e6 e7 e8 hC hCC hS HRD
                              go_upto_region 24 with fail
                              have z3:=(HBX.out.cell (p:=⟨w3.heap.size,3,D⟩) HR5.out.lt).trans bz3.out
                              have v0:=(HBX.out.cell (p:=⟨gS,m,D⟩) hgS).trans bv0.out
                              have e6:=(HBX.out.cell (p:=⟨gv,k*9+6,D⟩) hgv).trans be6.out
                              rw [HLOST.out] at e6
                              obtain ⟨r0,r1,r2,r3,r4,r5⟩:=kr6 HRQ.out
                              refine zau (fun w'=>KB (fun _=>False) wf3 w') (fun w'=>KB (fun _=>False) wf3 w') 99 (by kernel_rfl) ?_
                              obtain ⟨wz,hwd0⟩:∃ x,x=wf3.drew:=⟨_,rfl⟩
                              have hS:KB (fun _=>False) wf3 wz:=by rw [hwd0];exact (V _ _).drew
                              rw [← hwd0]
                              clear hwd0
                              have hC:=hS
                              have hCC:=hS
                              refine zam 0 rfl hS (fun _=>hCC) ?_
                              try simp only [C,f,g,l]
                              refine zam 1 rfl hS (fun _=>hCC) ?_
                              try simp only [C,f,g,l]
                              refine zam 2 rfl hS (fun _=>hCC) ?_
                              try simp only [C,f,g,l]
                              refine zaS 3 ?_ rfl hS (fun _=>hCC) ?yld ?_
                              case yld=>(intro wq hSw;have er0:=(hSw.cell (o:=0) HRQ.out.lt (fun q=>q)).trans r0;have er1:=(hSw.cell (o:=1) HRQ.out.lt (fun q=>q)).trans r1;have er2:=(hSw.cell (o:=2) HRQ.out.lt (fun q=>q)).trans r2;have er3:=(hSw.cell (o:=3) HRQ.out.lt (fun q=>q)).trans r3;have er4:=(hSw.cell (o:=4) HRQ.out.lt (fun q=>q)).trans r4;have er5:=(hSw.cell (o:=5) HRQ.out.lt (fun q=>q)).trans r5;go_simp <;> with_reducible rfl)
                              try simp only [C,f,g,l]
                              refine zam 4 rfl hS (fun _=>hCC) ?_
                              try simp only [C,f,g,l]
                              refine zad (rs:=[5]) (by kernel_rfl) (by simp) ?_
                              refine O (i:=5) rfl (fun K hK => ?_) ?_
                              · skip
                                go_simp
                                go_at_call 12
                                (with_reducible refine (zf9 bt _).mono ?_)
                                rintro e9 wg ⟨rfl,hb9⟩
                                have hC9:=hC.thenB hb9
                                go_wp2_with fail
                                refine hK.out _ _ (hC9) (fun _=>hC9) (fun hS hCC => ?_)
                                have hCC:=hCC rfl
                                have hC:=hCC
                                clear hK K
                                try simp only [C,f,g,l]
                                clear hb9
                                refine zam 6 rfl hS (fun _=>hCC) ?_
                                try simp only [C,f,g,l]
                                refine zam 7 rfl hS (fun _=>hCC) ?_
                                try simp only [C,f,g,l]
                                refine zam 8 rfl hS (fun _=>hCC) ?_
                                try simp only [C,f,g,l]
                                refine zam 9 rfl hS (fun _=>hCC) ?_
                                try simp only [C,f,g,l]
                                refine zaS 10 ?_ rfl hS (fun _=>hCC) ?yld ?_
                                case yld=>(intro wq hSw;have ez3:=(hSw.cell (o:=3) (I HR5.out.lt HBX.out.size) (fun q=>q)).trans z3;go_simp <;> with_reducible rfl)
                                try simp only [C,f,g,l]
                                refine zam 11 rfl hS (fun _=>hCC) ?_
                                try simp only [C,f,g,l]
                                refine zam 12 rfl hS (fun _=>hCC) ?_
                                try simp only [C,f,g,l]
                                refine zaS 13 ?_ rfl hS (fun _=>hCC) ?yld ?_
                                case yld=>(intro wq hSw;have ev0:=(hSw.cell (o:=m) (I hgS HBX.out.size) (fun q=>q)).trans v0;go_simp <;> with_reducible rfl)
                                try simp only [C,f,g,l]
                                refine zam 14 rfl hS (fun _=>hCC) ?_
                                try simp only [C,f,g,l]
                                refine zam 15 rfl hS (fun _=>hCC) ?_
                                try simp only [C,f,g,l]
                                refine zam 16 rfl hS (fun _=>hCC) ?_
                                try simp only [C,f,g,l]
                                refine zaS 17 ?_ rfl hS (fun _=>hCC) ?yld ?_
                                case yld=>(intro wq hSw;have ee6:=(hSw.cell (o:=k*9+6) (I hgv HBX.out.size) (fun q=>q)).trans e6;go_simp <;> with_reducible rfl)
                                try simp only [C,f,g,l]
                                refine zam 18 rfl hS (fun _=>hCC) ?_
                                try simp only [C,f,g,l]
                                refine zam 19 rfl hS (fun _=>hCC) ?_
                                try simp only [C,f,g,l]
                                refine zaR (by kernel_rfl) ?_ _
                                have HBY:=Hd (HBX.out.trans ((hC.below (L _) (fun _ qf=>qf.elim)).mono HBX.out.size))
                                clear hS hC hCC
                                go_upto_region 17 with fail
                                go_wp2
                                go_roundw
                                case rel=>exact ⟨k+1,by omega,by go_num,HBY.out⟩
                                case measure=>simp [intOf];omega
                              exact P
                            exact P
                          exact P
                        refine O (i:=23) rfl (fun K hK => ?_) ?_
                        · skip
                          have hz8:=hC.size
                          go_simp
                          refine hK.out _ _ (W hS _) (fun _=>W hC _) (fun hS hCC => ?_)
                          have hCC:=hCC rfl
                          have hC:=hCC
                          clear hK K
                          try simp only [C,f,g,l]
                          have HRQ:=Hd (Row.new (w:=wy) (t := 73) wy.heap.size [E F 0,E F 0,G ⟨#[]⟩,E F 0,E F 0,E F 0] rfl)
                          have hq8:wc.heap.size≤wy.heap.size:=hz8
                          generalize wy.alloc (M #[E F 0,E F 0,G ⟨#[]⟩,E F 0,E F 0,E F 0] 73)=we4 at *
                          refine zad (rs:=[19]) (by kernel_rfl) (by simp) ?_
                          refine O (i:=19) rfl (fun K hK => ?_) ?_
                          · skip
                            go_simp
                            go_at_call 11
                            (with_reducible refine (HRD.out _ (HB8.out.trans ((hC.below (L _) (fun _ qf=>qf.elim)).mono HB8.out.size))).mono ?_)
                            rintro e9 wd5 ⟨rfl,hb9⟩
                            have hC9:=hC.thenB hb9
                            go_wp2_with fail
                            refine hK.out _ _ (hC9) (fun _=>hC9) (fun hS hCC => ?_)
                            have hCC:=hCC rfl
                            have hC:=hCC
                            clear hK K
                            try simp only [C,f,g,l]
                            have HRQ:=Hd (HRQ.out.below hb9 HRQ.out.lt)
                            clear hb9
                            refine zam 20 rfl hS (fun _=>hCC) ?_
                            try simp only [C,f,g,l]
                            refine zam 21 rfl hS (fun _=>hCC) ?_
                            try simp only [C,f,g,l]
                            refine zam 22 rfl hS (fun _=>hCC) ?_
                            try simp only [C,f,g,l]
                            refine zad (rs:=[24]) (by kernel_rfl) (by simp) ?_
                            refine O (i:=24) rfl (fun K hK => ?_) ?_
                            · skip
                              obtain ⟨y0,y1,y2,y3,y4,y5⟩:=kr6 HRQ.out;obtain ⟨yf0,yf1,yf2,yf3,yf4,yf5⟩:=kq6 HRQ.out
                              go_simp
                              refine hK.out _ _ (J (J (J (J (J (J (hS) (.inr hq8) _ _) (.inr hq8) _ _) (.inr hq8) _ _) (.inr hq8) _ _) (.inr hq8) _ _) (.inr hq8) _ _) (fun _=>J (J (J (J (J (J (hC) (.inr hq8) _ _) (.inr hq8) _ _) (.inr hq8) _ _) (.inr hq8) _ _) (.inr hq8) _ _) (.inr hq8) _ _) (fun hS hCC => ?_)
                              have hCC:=hCC rfl
                              have hC:=hCC
                              clear hK K
                              try simp only [C,f,g,l]
                              clear y0 yf0 y1 yf1 y2 yf2 y3 yf3 y4 yf4 y5 yf5
                              have HRQ:=Hd (show Row ((((((wd5.setCell ⟨wy.heap.size,0,D⟩ (E F 1)).setCell ⟨wy.heap.size,1,D⟩ (E F (truN bt))).setCell ⟨wy.heap.size,2,D⟩ (G ⟨#[]⟩)).setCell ⟨wy.heap.size,3,D⟩ (E F 0)).setCell ⟨wy.heap.size,4,D⟩ (E F 0)).setCell ⟨wy.heap.size,5,D⟩ (E F 0)) wy.heap.size 73 [E F 1,E F (truN bt),G ⟨#[]⟩,E F 0,E F 0,E F 0] from HRQ.out.sets [(0,E F 1),(1,E F (truN bt)),(2,G ⟨#[]⟩),(3,E F 0),(4,E F 0),(5,E F 0)])
                              generalize ((((((wd5.setCell ⟨wy.heap.size,0,D⟩ (E F 1)).setCell ⟨wy.heap.size,1,D⟩ (E F (truN bt))).setCell ⟨wy.heap.size,2,D⟩ (G ⟨#[]⟩)).setCell ⟨wy.heap.size,3,D⟩ (E F 0)).setCell ⟨wy.heap.size,4,D⟩ (E F 0)).setCell ⟨wy.heap.size,5,D⟩ (E F 0))=wf6 at *
                              refine zam 25 rfl hS (fun _=>hCC) ?_
                              try simp only [C,f,g,l]
                              refine zaR (by kernel_rfl) ?_ _
                              have HBX:=Hd (HB8.out.trans ((hC.below (L _) (fun _ qf=>qf.elim)).mono HB8.out.size))
                              clear z3 v0 z1 T2 I1 e0 e1 e2 e3 e4 e5 e6 e7 e8 hC hCC hS HRD
                              go_upto_region 24 with fail
                              have z3:=(HBX.out.cell (p:=⟨w3.heap.size,3,D⟩) HR5.out.lt).trans bz3.out
                              have v0:=(HBX.out.cell (p:=⟨gS,m,D⟩) hgS).trans bv0.out
                              have e6:=(HBX.out.cell (p:=⟨gv,k*9+6,D⟩) hgv).trans be6.out
                              rw [HLOST.out] at e6
                              obtain ⟨r0,r1,r2,r3,r4,r5⟩:=kr6 HRQ.out
                              refine zau (fun w'=>KB (fun _=>False) wf6 w') (fun w'=>KB (fun _=>False) wf6 w') 99 (by kernel_rfl) ?_
                              obtain ⟨wz,hwd0⟩:∃ x,x=wf6.drew:=⟨_,rfl⟩
                              have hS:KB (fun _=>False) wf6 wz:=by rw [hwd0];exact (V _ _).drew
                              rw [← hwd0]
                              clear hwd0
                              have hC:=hS
                              have hCC:=hS
                              refine zam 0 rfl hS (fun _=>hCC) ?_
                              try simp only [C,f,g,l]
                              refine zam 1 rfl hS (fun _=>hCC) ?_
                              try simp only [C,f,g,l]
                              refine zam 2 rfl hS (fun _=>hCC) ?_
                              try simp only [C,f,g,l]
                              refine zaS 3 ?_ rfl hS (fun _=>hCC) ?yld ?_
                              case yld=>(intro wq hSw;have er0:=(hSw.cell (o:=0) HRQ.out.lt (fun q=>q)).trans r0;have er1:=(hSw.cell (o:=1) HRQ.out.lt (fun q=>q)).trans r1;have er2:=(hSw.cell (o:=2) HRQ.out.lt (fun q=>q)).trans r2;have er3:=(hSw.cell (o:=3) HRQ.out.lt (fun q=>q)).trans r3;have er4:=(hSw.cell (o:=4) HRQ.out.lt (fun q=>q)).trans r4;have er5:=(hSw.cell (o:=5) HRQ.out.lt (fun q=>q)).trans r5;go_simp <;> with_reducible rfl)
                              try simp only [C,f,g,l]
                              refine zam 4 rfl hS (fun _=>hCC) ?_
                              try simp only [C,f,g,l]
                              refine zad (rs:=[5]) (by kernel_rfl) (by simp) ?_
                              refine O (i:=5) rfl (fun K hK => ?_) ?_
                              · skip
                                go_simp
                                go_at_call 12
                                (with_reducible refine (zf9 bt _).mono ?_)
                                rintro e9 wg ⟨rfl,hb9⟩
                                have hC9:=hC.thenB hb9
                                go_wp2_with fail
                                refine hK.out _ _ (hC9) (fun _=>hC9) (fun hS hCC => ?_)
                                have hCC:=hCC rfl
                                have hC:=hCC
                                clear hK K
                                try simp only [C,f,g,l]
                                clear hb9
                                refine zam 6 rfl hS (fun _=>hCC) ?_
                                try simp only [C,f,g,l]
                                refine zam 7 rfl hS (fun _=>hCC) ?_
                                try simp only [C,f,g,l]
                                refine zam 8 rfl hS (fun _=>hCC) ?_
                                try simp only [C,f,g,l]
                                refine zam 9 rfl hS (fun _=>hCC) ?_
                                try simp only [C,f,g,l]
                                refine zaS 10 ?_ rfl hS (fun _=>hCC) ?yld ?_
                                case yld=>(intro wq hSw;have ez3:=(hSw.cell (o:=3) (I HR5.out.lt HBX.out.size) (fun q=>q)).trans z3;go_simp <;> with_reducible rfl)
                                try simp only [C,f,g,l]
                                refine zam 11 rfl hS (fun _=>hCC) ?_
                                try simp only [C,f,g,l]
                                refine zam 12 rfl hS (fun _=>hCC) ?_
                                try simp only [C,f,g,l]
                                refine zaS 13 ?_ rfl hS (fun _=>hCC) ?yld ?_
                                case yld=>(intro wq hSw;have ev0:=(hSw.cell (o:=m) (I hgS HBX.out.size) (fun q=>q)).trans v0;go_simp <;> with_reducible rfl)
                                try simp only [C,f,g,l]
                                refine zam 14 rfl hS (fun _=>hCC) ?_
                                try simp only [C,f,g,l]
                                refine zam 15 rfl hS (fun _=>hCC) ?_
                                try simp only [C,f,g,l]
                                refine zam 16 rfl hS (fun _=>hCC) ?_
                                try simp only [C,f,g,l]
                                refine zaS 17 ?_ rfl hS (fun _=>hCC) ?yld ?_
                                case yld=>(intro wq hSw;have ee6:=(hSw.cell (o:=k*9+6) (I hgv HBX.out.size) (fun q=>q)).trans e6;go_simp <;> with_reducible rfl)
                                try simp only [C,f,g,l]
                                refine zam 18 rfl hS (fun _=>hCC) ?_
                                try simp only [C,f,g,l]
                                refine zam 19 rfl hS (fun _=>hCC) ?_
                                try simp only [C,f,g,l]
                                refine zaR (by kernel_rfl) ?_ _
                                have HBY:=Hd (HBX.out.trans ((hC.below (L _) (fun _ qf=>qf.elim)).mono HBX.out.size))
                                clear hS hC hCC
                                go_upto_region 17 with fail
                                go_wp2
                                go_roundw
                                case rel=>exact ⟨k+1,by omega,by go_num,HBY.out⟩
                                case measure=>simp [intOf];omega
                              exact P
                            exact P
                          exact P
                        exact P
                      exact P
                    exact P
                  · obtain rfl:k=x.r.subs.length:=by omega
                    clear hkl
                    go_wp2
                    go_roundw
                    case rel=>exact ⟨m+1,by omega,by go_num,HBW.out⟩
                    case measure=>simp [intOf];omega
               · obtain rfl:m=xs.length:=by omega
                 clear hml
                 go_wp2
                 go_roundw
                 case rel=>exact ⟨n+1,by omega,by go_num,HO5.out.below HBW.out,HK5.out.thenB HBW.out,HR5.out.below HBW.out HR5.out.lt⟩
                 case measure=>simp [intOf];omega
            exact P
          exact P
        · obtain rfl:n=us.length:=by omega
          have hmi:¬ ((us.length:Int)<(us.length:Int)):=by omega
          clear hlt
          go_wp2
          go_ret
          refine ⟨rfl,HB02.out.trans ((HOPN.out.bel.mono (by omega)).trans ((HB4.out.mono (by omega)).trans (HKB.out.below (by omega) fun b q => ?_)))⟩
          rcases q with q | q
          · omega
          · have:=(HRL.out b q).1
            omega
     · have hu1:(60:Int)<(us.length:Int):=by omega
       go_wp2
       go_ret
       exact ⟨rfl,HB02.out⟩
   · clear hn0
     go_wp2
     go_ret
     exact ⟨rfl,HB02.out⟩
end Go.Proofs.YtjkimieapfbhbaaGreatDoor
