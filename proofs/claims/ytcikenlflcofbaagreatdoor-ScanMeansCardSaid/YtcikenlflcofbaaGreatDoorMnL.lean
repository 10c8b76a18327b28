/-
  The law ScanMeans.
-/
import Derived.Test.YtcikenlflcofbaaGreatDoorKMnP
import Derived.Deep.RegionHeld3
set_option maxRecDepth 100000
set_option maxHeartbeats 8000000
namespace Go.Proofs.YtcikenlflcofbaaGreatDoor
open Go.RowKit
theorem zlu (A0:Option Addr) (c0:Nat) (rs:List Rl) (A1:Option Addr) (c1:Nat) (ins:List Sg) (A2:Option Addr) (c2:Nat) (xs:List (List Int)) (w:World) (hw:Lw w) (hc0:rs.length≤c0) (hm0:c0≤maxLen) (hr0:Rw RlC 2 w (Old w) A0 rs.length rs)
    (hc1:ins.length≤c1) (hm1:c1≤maxLen) (hr1:Rw SgC 2 w (Old w) A1 ins.length ins) (hc2:xs.length≤c2) (hm2:c2≤maxLen) (hr2:Rw LsC 1 w (Old w) A2 xs.length xs) :
    Calls Tryz.prog 3 #[.slice A0 rs.length c0,.slice A1 ins.length c1,.slice A2 xs.length c2] w (RetB true w):=by
  have HF:=Hi (ziE A0 c0 rs A1 c1 ins w hr0);have HK:=Hi (fun W (h:Below w.heap.size w W)=>zgv W (hw.below h));have hRR:=fun W (h:Below w.heap.size w W)=>(hr0.mono RlC.mono (S':=Old W) (fun b q=>Nat.lt_of_lt_of_le q h.size) (zab h fun b q=>q))
  have hRI:=fun W (h:Below w.heap.size w W)=>(hr1.mono SgC.mono (S':=Old W) (fun b q=>Nat.lt_of_lt_of_le q h.size) (zab h fun b q=>q))
  have HRUL:=Hi (fun W (h:Below w.heap.size w W)=>zeK A0 c0 rs A1 c1 ins W (hRR W h) hc1 hm1 (hRI W h));have HCM:=Hi (fun W (h:Below w.heap.size w W)=>zd2 A0 c0 rs A1 c1 ins W (hw.below h) hc0 hm0 (hRR W h) hc1 hm1 (hRI W h));have HC7:=Hi (fun W (h:Below w.heap.size w W)=>zf5 A0 c0 rs A1 c1 ins W (hRR W h) hc1 hm1 (hRI W h));have HXR:=Hi hr2;have HR0:=Hi hr0;have HR1:=Hi hr1;have hlm:(xs.length:Int)≤9223372036854775807:=by unfold maxLen at hm2;omega
  obtain ⟨fb,hfb⟩:∃ fb,zfB rs ins=fb:=⟨_,rfl⟩;rw [hfb] at HF;clear hw hr0 hr1 hr2 hc0 hm0 hc1 hm1 hc2 hm2 hRR hRI
  cases fb with
  | false =>
    go_enter Tryz.func3,Tryz.ntmps3;go_wp2_with fail
    refine HF.out.mono ?_
    rintro e w1 ⟨rfl,hb1⟩
    have HB1:=Hi hb1;clear hb1;go_wp2_with fail
    refine (HK.out _ HB1.out).mono ?_
    rintro e w99 ⟨rfl,hb99⟩
    have HB99:=Hi (zac HB1.out hb99 HB1.out.size);clear hb99;go_wp2;go_ret
    exact ⟨rfl,HB99.out⟩
  | true =>
  have hfew:rs.length≤16∧ins.length≤20:=by
    unfold zfB at hfb;rw [Bool.and_eq_true] at hfb;have:=hfb.1;simp only [Bool.not_eq_true',decide_eq_false_iff_not] at this;omega
  obtain ⟨hrl,hil⟩:=hfew;clear hfb
  by_cases h12:12<xs.length
  · have hd:decide ((12:Int)<(xs.length:Int))=true:=decide_eq_true (by omega)
    clear h12
    go_enter Tryz.func3,Tryz.ntmps3
    go_wp2_with fail
    refine HF.out.mono ?_
    rintro e w1 ⟨rfl,hb1⟩
    have HB1:=Hi hb1
    clear hb1
    go_wp2_with fail
    refine (HK.out _ HB1.out).mono ?_
    rintro e w99 ⟨rfl,hb99⟩
    have HB99:=Hi (zac HB1.out hb99 HB1.out.size)
    clear hb99
    go_wp2
    go_ret
    exact ⟨rfl,HB99.out⟩
  have hd:decide ((12:Int)<(xs.length:Int))=false:=decide_eq_false (by omega);have hxl:xs.length≤12:=by omega
  obtain ⟨p,pa,pe,hcp⟩:∃ p a e,cmpP rs ins=(p,a,e):=⟨_,_,_,rfl⟩;have HCP:=Hi hcp;clear hcp h12;go_enter Tryz.func3,Tryz.ntmps3;go_wp2_with fail
  refine HF.out.mono ?_
  rintro e w1 ⟨rfl,hb1⟩
  have HB1:=Hi hb1;clear hb1;go_wp2_with fail
  refine (HRUL.out _ HB1.out).mono ?_
  rintro e w2 ⟨v,trs,ra,rer,T,hP,rfl,hownX,hb2⟩
  obtain ⟨A7,c7,rfl,hc7,hm7⟩:=hownX.shape;have HXT:=Hi (hownX.rw (S:=fun b=>b<w2.heap.size) rfl (fun b _ h=>h));have HB2:=Hi (zac HB1.out hb2 HB1.out.size);have HP:=Hi hP;clear hownX hb2 hP HRUL;go_wp2_with fail
  refine (HCM.out _ HB2.out).mono ?_
  intro e w3 hret;obtain ⟨D1,d1,D2,d2,D3,d3,D4,d4,rfl,hpg,hb3⟩:=hret.of HCP.out;have hbx:=zaa w3 (Obj.cells (pgC p ⟨D1,d1,D2,d2,D3,d3,D4,d4⟩) 35);have HPX:=Hi (heap_alloc_new w3 (Obj.cells (pgC p ⟨D1,d1,D2,d2,D3,d3,D4,d4⟩) 35));have hs3:=World.size_alloc w3 (Obj.cells (pgC p ⟨D1,d1,D2,d2,D3,d3,D4,d4⟩) 35);have hb13:=zac hb3 hbx hb3.size;have HB3:=Hi (zac HB2.out hb13 HB2.out.size);have HPG:=Hi (hpg.mono (S':=fun b=>b<w3.heap.size) (fun b q=>q.2) (zab hbx fun b q=>q.2));have HB13:=Hi hb13;have HS3:=Hi hs3;clear hret hpg hb3 hbx hs3 hb13 HCM;go_wp2_with fail
  refine (HC7.out _ HB3.out).mono ?_
  rintro e w4 ⟨E1,E2,E3,E4,n1,n2,n3,n4,e1,e2,e3,e4,qa,qer,rfl,hn3,hb4⟩
  have hbx:=zaa w4 (Obj.cells #[.slice E1 n1 e1,.slice E2 n2 e2,.slice E3 n3 e3,.slice E4 n4 e4] 35);have HQX:=Hi (heap_alloc_new w4 (Obj.cells #[.slice E1 n1 e1,.slice E2 n2 e2,.slice E3 n3 e3,.slice E4 n4 e4] 35));have hs4:=World.size_alloc w4 (Obj.cells #[.slice E1 n1 e1,.slice E2 n2 e2,.slice E3 n3 e3,.slice E4 n4 e4] 35);have hb14:=zac hb4 hbx hb4.size;have HB14:=Hi hb14;have HB4:=Hi (zac HB3.out hb14 HB3.out.size);have HS4:=Hi hs4;have HN3:=Hi hn3;clear hn3 hb4 hbx hs4 hb14 HC7;go_upto_region 6 with fail
  generalize w4.alloc (Obj.cells #[.slice E1 n1 e1,.slice E2 n2 e2,.slice E3 n3 e3,.slice E4 n4 e4] 35)=W5 at *;generalize w3.alloc (Obj.cells (pgC p ⟨D1,d1,D2,d2,D3,d3,D4,d4⟩) 35)=W4 at *
  by_cases her:rer=0
  case neg =>
    have ber:(rer != 0)=true:=by simpa using her
    clear her;go_wp2_with fail
    refine (HK.out _ HB4.out).mono ?_
    rintro e w99 ⟨rfl,hb99⟩
    have HB99:=Hi (zac HB4.out hb99 HB4.out.size);clear hb99;go_wp2;go_ret
    exact ⟨rfl,HB99.out⟩
  subst her
  by_cases hpe:pe=0
  case neg =>
    have bpe:(pe != 0)=true:=by simpa using hpe
    clear hpe;go_wp2_with fail
    refine (HK.out _ HB4.out).mono ?_
    rintro e w99 ⟨rfl,hb99⟩
    have HB99:=Hi (zac HB4.out hb99 HB4.out.size);clear hb99;go_wp2;go_ret
    exact ⟨rfl,HB99.out⟩
  subst hpe
  by_cases hqe:qer=0
  case neg =>
    have bqe:(qer != 0)=true:=by simpa using hqe
    clear hqe;go_wp2_with fail
    refine (HK.out _ HB4.out).mono ?_
    rintro e w99 ⟨rfl,hb99⟩
    have HB99:=Hi (zac HB4.out hb99 HB4.out.size);clear hb99;go_wp2;go_ret
    exact ⟨rfl,HB99.out⟩
  subst hqe;obtain ⟨env,hco,hve⟩:=zli HCP.out;have HCO:=Hi hco;have HV:=Hi hve;have hn3:n3=p.cells.length:=by rw [HN3.out rfl,← hco.pcells]
  have hpi:p.ins=ins:=hco.pins;have hpr:p.rls=rs.map (·.nm):=hco.prls;have htr:(rulP rs ins).1=trs:=by rw [HP.out]
  have htl:trs.length=rs.length:=by rw [← htr,hco.rul.list,List.length_map]
  have hcl:p.cells.length≤64:=hco.few.2.1;subst hn3;have HPI:=Hi hpi;have HPR:=Hi hpr;have HTR:=Hi htr;have HTL:=Hi htl;have HTO:=Hi (fun x (h:x∈trs)=>show okG 16 x from (hco.rul.ok (fun t h=>za6 h) x (by rw [htr];exact h)).1);have hmn:=fun {inp vals:List Int} {cs:List Cs}=>ziy hco (fun t h=>za6 h) (inp:=inp) (vals:=vals) (cs:=cs)
  have hnam:zas p=ins.map (·.nm)++rs.map (·.nm):=by unfold zas;rw [hpi,hpr]
  simp only [hnam,htr] at hmn;have HMN:=Hi (fun (inp vals:List Int) (cs:List Cs) h1 h2 h3=>hmn (inp:=inp) (vals:=vals) (cs:=cs) h1 h2 h3);have hs3:=HS3.out;have hs4:=HS4.out;have hb4:=HB4.out;have hsz2:=HB2.out.size;have hsz13:=HB13.out.size;have hsz14:=HB14.out.size;have hpx:=(HB14.out.block w3.heap.size (by omega)).trans HPX.out;have HPX5:=Hi hpx;have hl3:w3.heap.size<W5.heap.size:=by omega
  clear hco hve hpi hpr htr htl hmn hnam hb4 hpx HPX HCP HN3 HP;go_upto_region 8 with fail
  go_wp2;go_loopg [81] (xs.length+1) (fun g v wr=>MnA W5 p xs g v wr)
  case atStart=>exact ⟨0,Nat.zero_le _,by omega,rfl,fun i x h _=>absurd h (Nat.not_lt_zero _),Below.refl _ _⟩
  case round =>
    obtain ⟨k,hk,hgk,rfl,hrd,hbr⟩:=hrel;have hbw:=zac HB4.out hbr HB4.out.size;have HBW:=Hi hbw;have HBR:=Hi hbr;have HRD:=Hi hrd;have hsr:=hbr.size
    by_cases hlt:k<xs.length
    case pos =>
      as_aux_lemma =>
        obtain ⟨bA,oA,x,Ax,cx,hA,hSb,hx,hxc,hxm,hxr,y0⟩:=lsAt (HXR.out.mono LsC.mono (fun _ q=>q) (zab hbw fun _ q=>q)) hlt;subst hA;have hbk:bA<wr.heap.size:=by have q':bA<w.heap.size:=hSb;have:=hbw.size;omega
        have HXX:=Hi hxr;have HX:=Hi hx;clear hrd hbr hbw hx hxc hxr hSb
        by_cases hlen:x.length=ins.length
        case neg =>
          have hne:((x.length:Int) != (ins.length:Int))=true:=by simp;omega
          go_wp2_with fail
          refine (HK.out _ HBW.out).mono ?_
          rintro e w99 ⟨rfl,hb99⟩
          have HB99:=Hi (zac HBW.out hb99 HBW.out.size);clear hb99;go_wp2;go_ret
          exact ⟨rfl,HB99.out⟩
        have hne:((x.length:Int) != (ins.length:Int))=false:=by simp;omega
        have HZL:=Hi (show (p.ins.zip x).length=ins.length by rw [HPI.out,List.length_zip];omega)
        have HRB:=Hi (show zdf p x=(p.ins.zip x).all rdB by
          have e:zdf p x=(decide (x.length=p.ins.length) && (p.ins.zip x).all rdB):=rfl;rw [e,HPI.out,decide_eq_true hlen,Bool.true_and])
        have HLEN:=Hi hlen;have HRI1:=Hi (HR1.out.mono SgC.mono (S':=Old w) (fun _ q=>q) (zab HBW.out fun _ q=>q));clear hlen;go_upto_region 13 with fail
        clear hne;go_wp2;go_loopg [93] (ins.length+1) (fun g v wq=>MnB wr (p.ins.zip x) ins.length g v wq)
        case atStart=>exact ⟨0,Nat.zero_le _,by omega,rfl,by rw [List.drop_zero],Below.refl _ _⟩
        case round =>
          rename World=>wq
          obtain ⟨j,hj,hgj,rfl,hall,hbq⟩:=hrel;have HBQ:=Hi (zac HBW.out hbq HBW.out.size);have HBQR:=Hi hbq
          by_cases hlj:j<ins.length
          case neg =>
            obtain rfl:j=ins.length:=by omega
            rw [List.drop_eq_nil_of_le (by rw [HZL.out];exact Nat.le_refl _)] at hall;have HRT:=Hi (show zdf p x=true by rw [HRB.out,← hall];rfl);clear hall hbq hlj;go_wp2;go_roundg (xs.length-k)
            case measure=>omega
            case rel =>
              refine ⟨k+1,by omega,by omega,by go_num,fun i y hi hy => ?_,zac HBR.out HBQR.out HBR.out.size⟩
              rcases Nat.lt_succ_iff_lt_or_eq.1 hi with q | rfl
              · exact HRD.out i y q hy
              · rw [HX.out] at hy
                injection hy with hy
                rw [← hy]
                exact HRT.out
          obtain ⟨b,o,s,hA,hSb,hsx,-,-,y0',y1'⟩:=sgAt (HRI1.out.mono SgC.mono (S':=Old w) (fun _ q=>q) (zab (hbq.mono (by have:=HBW.out.size;exact this)) fun _ q=>q)) hlj;obtain ⟨b',o',z,hA',hSb',hz,u0⟩:=iaAt (HXX.out.mono IaC.mono (S':=Old w) (fun _ q=>q) (zab (hbq.mono (by have:=HBW.out.size;exact this)) fun _ q=>q)) (show j<x.length by rw [HLEN.out];exact hlj);have hA2:A1=some ⟨b,o,none⟩:=hA;subst hA2;subst hA';have hzk:(p.ins.zip x)[j]? = some (s,z):=by rw [List.getElem?_zip_eq_some,HPI.out];exact ⟨hsx,hz⟩
          have hget:(p.ins.zip x)[j]'(by rw [HZL.out];exact hlj)=(s,z):=by
            rw [List.getElem?_eq_getElem (by rw [HZL.out];exact hlj)] at hzk;injection hzk
          rw [List.drop_eq_getElem_cons (by rw [HZL.out];exact hlj),hget,List.all_cons] at hall;obtain ⟨nm,kd⟩:=s;dsimp only at y0' y1';have hrd':rdB (⟨nm,kd⟩,z)=(!decide (kd=1) || decide (z=0∨z=1)):=rfl;rw [hrd'] at hall;have HAL:=Hi hall;have hkJ:(j:Int)<(x.length:Int):=by rw [HLEN.out];omega
          have hsq:=hbq.size;have hbk2:b<wq.heap.size:=by have q':b<w.heap.size:=hSb;have:=HBW.out.size;omega
          have hbk3:b'<wq.heap.size:=by have q':b'<w.heap.size:=hSb';have:=HBW.out.size;omega
          have HBX:=Hi (zac hbq (zaa wq (Obj.cells #[.string ⟨nm.toArray⟩,.int .i64 kd] 40)) hbq.size);have HBXW:=Hi (zac HBW.out HBX.out HBW.out.size);clear hall hsx hz hzk hget hrd' hSb hSb' hbq
          rcases (show kd≠1∨(kd=1∧z=0)∨(kd=1∧z=1)∨(kd=1∧z≠0∧z≠1) by omega) with e | ⟨rfl,rfl⟩ | ⟨rfl,rfl⟩ | ⟨rfl,e0,e1⟩
          case inr.inr.inr =>
            have f0':(z != 0)=true:=by simpa using e0
            have f1':(z != 1)=true:=by simpa using e1
            clear e0 e1 HAL;go_wp2_with fail
            refine (HK.out _ HBXW.out).mono ?_
            rintro e w99 ⟨rfl,hb99⟩
            have HB99:=Hi (zac HBXW.out hb99 HBXW.out.size);clear hb99;go_wp2;go_ret
            exact ⟨rfl,HB99.out⟩
          all_goals
            have HE:=Hi (show ((p.ins.zip x).drop (j+1)).all rdB=(p.ins.zip x).all rdB by rw [← HAL.out];simp [*]);clear HAL
            try
              have hkb:(kd == 1)=false:=by simpa using e
              clear e
            go_wp2;go_roundg (ins.length-j)
            case measure=>omega
            case rel=>exact ⟨j+1,by omega,by omega,by go_num,HE.out,HBX.out⟩
    obtain rfl:k=xs.length:=by omega
    have hall:∀ x∈xs,zdf p x=true:=fun x hx=>by
      obtain ⟨i,hi,rfl⟩:=List.getElem_of_mem hx;exact HRD.out i _ hi (List.getElem?_eq_getElem hi)
    obtain ⟨L,hL⟩:=zjv (m:=newP p) (l:=[]) hall;have hru:runS p xs=(L,0):=by unfold runS;rw [if_neg (by rw [HV.out];decide)];exact hL
    have hLl:L.length=xs.length:=by have:=(zfd hL).1;simpa using this
    have HALL:=Hi hall;have HL:=Hi hL;have HLL:=Hi hLl;have hpx:=(hbr.block w3.heap.size hl3).trans HPX5.out;have q0:wr.cell? ⟨w3.heap.size,0,none⟩=some (.slice D1 p.ins.length d1):=by simp [World.cell?,hpx]
    have q1:wr.cell? ⟨w3.heap.size,1,none⟩=some (.slice D2 p.rls.length d2):=by simp [World.cell?,hpx]
    have q2:wr.cell? ⟨w3.heap.size,2,none⟩=some (.slice D3 p.cells.length d3):=by simp [World.cell?,hpx]
    have q3:wr.cell? ⟨w3.heap.size,3,none⟩=some (.slice D4 p.code.length d4):=by simp [World.cell?,hpx]
    have hl3r:w3.heap.size<wr.heap.size:=by omega
    have hb5r:=zac HB14.out hbr HB14.out.size;have HRU:=Hi (zih (c:=c2) (HPG.out.mono (S':=Old wr) (fun b q=>by have q':b<w3.heap.size:=q;show b<wr.heap.size;omega) (zab hb5r fun b q=>by have q':b<w3.heap.size:=q;omega)) (HXR.out.mono LsC.mono (S':=Old wr) (fun b q=>Nat.lt_of_lt_of_le q hbw.size) (zab hbw fun b q=>q)) (by omega));unfold RetRun at HRU;rw [hru] at HRU;clear hrd hlt hall hL hru hLl hpx hb5r HRD;go_wp2_with fail
    refine HRU.out.mono ?_
    rintro e w6 ⟨A5,c5,rfl,hc5,hm5,hr5,hb6⟩
    dsimp only at hc5 hr5 ⊢;have HR5:=Hi hr5;have hbw6:=zac HBW.out hb6 HBW.out.size;have HB6:=Hi hbw6;have hs6:=hb6.size;have hb56:=zac HBR.out hb6 HBR.out.size;have HB56:=Hi hb56;have hqx:=(hb56.block w4.heap.size (by omega)).trans HQX.out;have HQX6:=Hi hqx;obtain ⟨i0,hi0,hz0,hz1,hz2⟩:=info_parts zdD;obtain ⟨i1,hi1,hy0,hy1,hy2⟩:=info_parts zkV;have hne1:((L.length:Int) != (xs.length:Int))=false:=by rw [HLL.out];simp
    have hne2:(L.length != xs.length)=false:=by rw [HLL.out];simp
    clear hr5 hbw6 hb6 hb56 hqx q0 q1 q2 q3 HRU hc5;go_upto_region 23 with fail
    go_upto_region 24 with (at_make;refine wpList_make_full _ rfl _ _ 38 rfl w6.heap.size 3 i0 _ 1 Tryz.underlying38 hi0 hz0 hz1 .i64 .i64 _ _ rs.length rfl rfl rfl rfl (by rw [hz2];omega) (by unfold maxLen;omega) (Nat.le_refl _) ?_;intro w7 hown7 hg7;have HO7:=Hi hown7;have HG7:=Hi hg7;clear hown7 hg7)
    have hs7:=HG7.out.size;have hb7:Below w6.heap.size w6 w7:=(Below.refl _ _).grown HG7.out (Nat.le_refl _) (fun k hk=>by cases hk);have HB7:=Hi hb7;have hqx:=(hb7.block w4.heap.size (by omega)).trans HQX6.out;have g2:w7.cell? ⟨w4.heap.size,2,none⟩=some (.slice E3 p.cells.length e3):=by simp [World.cell?,hqx]
    have hl4:w4.heap.size<w7.heap.size:=by omega
    have hlo7:=(HO7.out.lt w6.heap.size rfl).2;clear hb7 hqx;go_upto_region 25 with (at_make;refine wpList_make_full _ rfl _ _ 43 rfl w6.heap.size 83 i1 _ 2 Tryz.underlying43 hi1 hy0 hy1 .i64 .i64 _ _ p.cells.length rfl rfl rfl rfl (by rw [hy2];omega) (by unfold maxLen;omega) (by omega) ?_;intro w8 hown8 hg8;have HO8:=Hi hown8;have HG8:=Hi hg8;clear hown8 hg8)
    have hs8:=HG8.out.size
    have hva:VaW w8 w6.heap.size w6.heap.size rs.length rs.length (newP p).vals:=by
      have h:=HO7.out;rw [show rs.length*1=rs.length from Nat.mul_one _,zc6] at h;have e:(newP p).vals=List.replicate rs.length 0:=by show List.replicate p.rls.length 0=_;rw [HPR.out,List.length_map]
      rw [e];exact ⟨zam h (fun g e hl=>HG8.out.block g hl (fun q=>by cases q)),List.length_replicate ..⟩
    have hce:CeW w8 w6.heap.size w7.heap.size p.cells.length p.cells.length (newP p).cells:=by
      have h:=HO8.out;rw [zgw] at h;exact ⟨h,List.length_replicate ..⟩
    have hb8:Below w6.heap.size w6 w8:=HB7.out.grown HG8.out hs7 (fun k hk=>by cases hk);have hmo:=zk1 HV.out;have HVA:=Hi hva;have HCE:=Hi hce;have HB8:=Hi hb8;have HVO:Hid (zeP p (newP p).vals):=Hi ⟨hmo.vl,hmo.vb⟩;have HCK:Hid (zdG p (newP p).cells):=Hi ⟨hmo.cl,hmo.cb⟩;have hgc:w6.heap.size≠w7.heap.size:=by omega
    clear hva hce hb8 hmo hi0 hz0 hz1 hz2 hi1 hy0 hy1 hy2 g2 HO7 HO8 HG7 HG8 HB7 hne1 hne2;go_wp2;go_loopg [142] (xs.length+1) (fun g v wq=>MnS w6 p xs L w6.heap.size rs.length rs.length w7.heap.size p.cells.length p.cells.length g v wq)
    case atStart=>exact ⟨0,_,_,[],Nat.zero_le _,by omega,rfl,HL.out,rfl,HVO.out,HCK.out,HVA.out,HCE.out,HB8.out⟩
    case round =>
      rename World=>wq
      obtain ⟨k,vals,cs,l,hk,hgk,rfl,hru,hll,hvo,hck,hva,hce,hbq⟩:=hrel;have hbqw:=zac HB6.out hbq HB6.out.size;have HBQ:=Hi hbqw;have HBQ6:=Hi hbq;have hsq:=hbq.size
      by_cases hlt:k<xs.length
      case neg =>
        clear hru hll hvo hck hva hce hbq hbqw;go_wp2_with fail
        refine (HK.out _ HBQ.out).mono ?_
        rintro e w99 ⟨rfl,hb99⟩
        have HB99:=Hi (zac HBQ.out hb99 HBQ.out.size);clear hb99;go_wp2;go_ret
        exact ⟨rfl,HB99.out⟩
      as_aux_lemma =>
        obtain ⟨bA,oA,x,Ax,cx,hA,hSb,hx,hxc,hxm,hxr,y0⟩:=lsAt (HXR.out.mono LsC.mono (fun _ q=>q) (zab hbqw fun _ q=>q)) hlt;subst hA;have hswq:=hbqw.size;have hbk:bA<wq.heap.size:=by have q':bA<w.heap.size:=hSb;omega
        have hread:=HALL.out x (List.mem_of_getElem? hx);have hinp:=zhd hread;have hxlen:x.length=ins.length:=by rw [hinp.1,HPI.out]
        obtain ⟨hrok,hvo2,hck2,hscan⟩:=HMN.out x vals cs hinp hvo hck
        have hget:xs[k]=x:=by
          rw [List.getElem?_eq_getElem hlt] at hx;injection hx
        rw [List.drop_eq_getElem_cons hlt,hget,zdh,if_neg (by rw [hread];decide),hscan] at hru;dsimp only at hru;obtain ⟨Rv,Rc,Rk,hR⟩:∃ a b c,zck (ins.map (·.nm)++rs.map (·.nm)) (x.map limP) trs 0 vals cs 0=(a,b,c):=⟨_,_,_,rfl⟩;rw [hR] at hvo2 hck2 hru;dsimp only at hvo2 hck2 hru;have hLk:L[k]? = some Rv:=(zfd hru).2 k Rv (by rw [List.getElem?_append_right (by omega),hll,Nat.sub_self];rfl);have hvl:vals.length=rs.length:=by rw [hvo.1,HPR.out,List.length_map]
        have hRl:Rv.length=rs.length:=by rw [hvo2.1,HPR.out,List.length_map]
        have HRU2:=Hi hru;have HLLk:=Hi hll;have HRO:=Hi hrok;have HR:=Hi hR;have HVO2:=Hi hvo2;have HCK2:=Hi hck2;have HLK:=Hi hLk;have HVL:=Hi hvl;have HRL:=Hi hRl;have HXLN:=Hi hxlen;have HVAq:=Hi hva;have HCEq:=Hi hce;have HX:=Hi (hxr.mono IaC.mono (S':=Old w) (fun _ q=>q) (KeepOn.refl _ _));have hgvl:=hva.lt;have hgcl:=hce.lt;have HLM:=Hi (fun (v:Int) W=>zaV v W);obtain ⟨ti,hti,hz0,hz1,hz2⟩:=info_parts zdD;have HTI:=Hi (And.intro hti (And.intro hz0 (And.intro hz1 hz2)));obtain ⟨tn,htn,hy0,hy1,hy2⟩:=info_parts zfK;have HTN:=Hi (And.intro htn (And.intro hy0 (And.intro hy1 hy2)));clear hru hll hvo hck hva hce hbq hbqw hx hxc hxr hSb hread hinp hxlen hrok hvo2 hck2 hscan hget hR hLk hvl hRl hti hz0 hz1 hz2 htn hy0 hy1 hy2 HL HVO HCK HVA HCE HB8;go_wp2;go_loopg [27,28,149] (ins.length+1) (fun g vN vV v wz=>MnD wq (fun i=>(ins.map (·.nm)).take i) (fun i=>(x.map limP).take i) 0 ins.length g vN vV v wz)
        case atStart=>exact ⟨0,Nat.zero_le _,by omega,rfl,⟨World.ownsRow_nil _ _ _ _,World.ownsRow_nil _ _ _ _,fun g q=>by simp [Value.ownBlock] at q⟩,Below.refl _ _⟩
        case round =>
          rename World=>wz
          obtain ⟨i,hi,hgi,rfl,hnv,hbz⟩:=hrel;rw [Nat.zero_add] at hnv;have hsz:=hbz.size;have hbzw:=zac HBQ.out hbz HBQ.out.size;obtain ⟨AN,cN,rfl,-,-⟩:=zag hnv.nr;obtain ⟨AV,cV,rfl,-,-⟩:=zag hnv.vr
          by_cases hli:i<ins.length
          case pos =>
            as_aux_lemma =>
              obtain ⟨b,o,s,hA,hSb,hsx,hsl,-,y0',y1'⟩:=sgAt (HR1.out.mono SgC.mono (fun _ q=>q) (zab hbzw fun _ q=>q)) hli;obtain ⟨b',o',z,hA',hSb',hz,u0⟩:=iaAt (HX.out.mono IaC.mono (S':=Old w) (fun _ q=>q) (zab (hbz.mono hswq) fun _ q=>q)) (show i<x.length by rw [HXLN.out];exact hli);have hA2:A1=some ⟨b,o,none⟩:=hA;subst hA2;subst hA';obtain ⟨nm,kd⟩:=s;dsimp only at hsl y0' y1';have hbb:b<wz.heap.size:=by have q':b<w.heap.size:=hSb;omega
              have hbb':b'<wz.heap.size:=by have q':b'<w.heap.size:=hSb';omega
              have HNS:=Hi (show (ins.map (·.nm)).take (i+1)=(ins.map (·.nm)).take i++[nm] by rw [List.take_add_one,List.getElem?_map,hsx];rfl);have HVS:=Hi (show (x.map limP).take (i+1)=(x.map limP).take i++[limP z] by rw [List.take_add_one,List.getElem?_map,hz];rfl);have hn:=hnv.nr.alloc (Obj.cells #[.string ⟨nm.toArray⟩,.int .i64 kd] 40);have hv:=hnv.vr.alloc (Obj.cells #[.string ⟨nm.toArray⟩,.int .i64 kd] 40);have HN:=Hi hn;have HV:=Hi hv;have HAP:=Hi hnv.ap;have HBX:=Hi (zaa wz (Obj.cells #[.string ⟨nm.toArray⟩,.int .i64 kd] 40));have hsu:=World.size_alloc wz (Obj.cells #[.string ⟨nm.toArray⟩,.int .i64 kd] 40);have hnew:=heap_alloc_new wz (Obj.cells #[.string ⟨nm.toArray⟩,.int .i64 kd] 40)
              have hld:∀ W:World,(∀ g,g<(wz.alloc (Obj.cells #[.string ⟨nm.toArray⟩,.int .i64 kd] 40)).heap.size→(Value.slice AN i cN).ownBlock≠some g→(Value.slice AV i cV).ownBlock≠some g→W.heap[g]? = (wz.alloc (Obj.cells #[.string ⟨nm.toArray⟩,.int .i64 kd] 40)).heap[g]?) →
                  W.cell? ⟨wz.heap.size,0,none⟩=some (.string ⟨nm.toArray⟩)∧W.cell? ⟨b',o'+i,none⟩=some (.int .i64 z):=fun W h=>by
                have e1:=(h wz.heap.size (by omega) (fun q=>Nat.lt_irrefl _ (hnv.nr.lt _ q).2) (fun q=>Nat.lt_irrefl _ (hnv.vr.lt _ q).2)).trans hnew;have hq:b'<w.heap.size:=hSb';have e2:=h b' (by omega) (fun q=>by have:=(hnv.nr.lt _ q).1;omega) (fun q=>by have:=(hnv.vr.lt _ q).1;omega);exact ⟨by simp [World.cell?,e1],(World.cell?_of_block e2).trans ((World.cell?_alloc_lt wz _ ⟨b',o'+i,none⟩ hbb').trans u0)⟩
              have HLD:=Hi hld;have HM1:=Hi (show i+1≤maxLen by unfold maxLen;omega);have HM2:=Hi (show (i+1)*8≤140737488355328 by omega);have HM3:=Hi (show (i+1)*16≤140737488355328 by omega);have HBU:=Hi (show wq.heap.size≤(wz.alloc (Obj.cells #[.string ⟨nm.toArray⟩,.int .i64 kd] 40)).heap.size by omega);have HBZ:=Hi hbz;obtain ⟨t0,t1⟩:=hld _ (fun _ _ _ _=>rfl);have hij:(i:Int)<(x.length:Int):=by rw [HXLN.out];omega
              clear hn hv hld hnew hnv hbz hbzw hsx hz hSb hSb' hsl;go_upto_region 34 with fail
              clear y0' y1' u0;generalize wz.alloc (Obj.cells #[.string ⟨nm.toArray⟩,.int .i64 kd] 40)=U at *;have HBU2:=Hi (zac HBZ.out HBX.out HBZ.out.size)
              go_region_held3 (fun w'=>w'.cell? ⟨wz.heap.size,0,none⟩=some (.string ⟨nm.toArray⟩)∧w'.cell? ⟨b',o'+i,none⟩=some (.int .i64 z)) (first | exact ⟨t0,t1⟩ | exact HLD.out _ (fun g h1 h2 h3=>by (try simp only [hpm]);(repeat rw [if_neg (by omega)]);first | rfl | exact hgN.block g h1 (fun q=>h2 q.symm) | exact hgV.block g h1 (fun q=>h3 q.symm) | exact (hgV.block g (by omega) (fun q=>h3 q.symm)).trans (hgN.block g h1 (fun q=>h2 q.symm)) | exact (hgN.block g (by omega) (fun q=>h2 q.symm)).trans (hgV.block g h1 (fun q=>h3 q.symm))) | go_keep)
                (first
                 | (first | (refine zaN (U:=wm) (u := .string ⟨nm.toArray⟩) (te := 9) (o:=⟨some 158,_,_,_,_,_⟩) _ _ 31 rfl rfl Tryz.underlying31 HTN.out.1 HTN.out.2.1 HTN.out.2.2.1 HTN.out.2.2.2 rfl (by rfl) (by rfl) hoN5 (by repeat (first | exact World.grownBy.refl _ _ | refine zaK ?_ _ | refine zbQ ?_)) (by first | ((try simp only [hpm]);(repeat (first | rw [if_pos (by omega)] | rw [if_neg (by omega)]));done) | (rw [hkV.block _ (by (try simp only [hpm]);omega) (ze2 HV.out (by omega))];(try simp only [hpm]);(repeat (first | rw [if_pos (by omega)] | rw [if_neg (by omega)]));done)) rfl HM1.out HM3.out (by have:=HBU.out;omega) ?_;intro AN' cN' wn hoN hkN hgN hfN hsN) | fail)
                 | (first | (refine zaN (U:=wm) (u := .int .i64 (limP z)) (te := 3) (o:=⟨some 166,_,_,_,_,_⟩) _ _ 38 rfl rfl Tryz.underlying38 HTI.out.1 HTI.out.2.1 HTI.out.2.2.1 HTI.out.2.2.2 rfl (by rfl) (by rfl) hoV5 (by repeat (first | exact World.grownBy.refl _ _ | refine zaK ?_ _ | refine zbQ ?_)) (by first | ((try simp only [hpm]);(repeat (first | rw [if_pos (by omega)] | rw [if_neg (by omega)]));done) | (rw [hkN.block _ (by (try simp only [hpm]);omega) (ze2 HN.out (by omega))];(try simp only [hpm]);(repeat (first | rw [if_pos (by omega)] | rw [if_neg (by omega)]));done)) rfl HM1.out HM2.out (by have:=HBU.out;omega) ?_;intro AV' cV' wn hoV hkV hgV hfV hsV) | fail)
                 | (go_at_call 11;refine (HLM.out _ _).mono ?_;rintro e8 w8 ⟨rfl,rfl⟩)
                 | (first | ((refine zaN (U:=U) (u := .string ⟨nm.toArray⟩) (te := 9) (o:=⟨some 158,_,_,_,_,_⟩) _ _ 31 rfl rfl Tryz.underlying31 HTN.out.1 HTN.out.2.1 HTN.out.2.2.1 HTN.out.2.2.2 rfl (by rfl) (by rfl) HN.out (by repeat (first | exact World.grownBy.refl _ _ | refine zaK ?_ _ | refine zbQ ?_)) (by (try simp only [hpm]);(repeat (first | rw [if_pos (by omega)] | rw [if_neg (by omega)]))) rfl HM1.out HM3.out HBU.out ?_;intro AN' cN' wm hoN hkN hgN hfN hsN);have hoV5:=zam HV.out (fun g e hl=>hgN.block g hl (fun q=>HAP.out g q.symm e));obtain ⟨t0,t1⟩:=HLD.out wm (fun g h1 h2 h3=>hgN.block g h1 (fun q=>h2 q.symm))) | fail)
                 | (first | ((refine zaN (U:=U) (u := .int .i64 (limP z)) (te := 3) (o:=⟨some 166,_,_,_,_,_⟩) _ _ 38 rfl rfl Tryz.underlying38 HTI.out.1 HTI.out.2.1 HTI.out.2.2.1 HTI.out.2.2.2 rfl (by rfl) (by rfl) HV.out (by repeat (first | exact World.grownBy.refl _ _ | refine zaK ?_ _ | refine zbQ ?_)) (by (try simp only [hpm]);(repeat (first | rw [if_pos (by omega)] | rw [if_neg (by omega)]))) rfl HM1.out HM2.out HBU.out ?_;intro AV' cV' wm hoV hkV hgV hfV hsV);have hoN5:=zam HN.out (fun g e hl=>hgV.block g hl (fun q=>HAP.out g e q.symm));obtain ⟨t0,t1⟩:=HLD.out wm (fun g h1 h2 h3=>hgV.block g h1 (fun q=>h3 q.symm))) | fail))
              all_goals
                go_wp2;go_roundg (ins.length-i)
                case measure=>omega
                case rel =>
                  refine zg4 (i:=i) (U:=U) ?_ HBU2.out (by omega) (by omega) (by go_num)
                  show NvR U wq.heap.size ((ins.map (·.nm)).take (i+1)) ((x.map limP).take (i+1)) (0+(i+1)) _ _ _
                  rw [HNS.out,HVS.out,Nat.zero_add]
                  first
                    | exact zj7 HN.out HV.out HAP.out hoN hgN hfN hoV hgV hfV
                    | exact zj8 HN.out HV.out HAP.out hoV hgV hfV hoN hgN hfN
                    | exact (zj7 HN.out HV.out HAP.out hoN hgN hfN hoV hgV hfV).drew
                    | exact (zj8 HN.out HV.out HAP.out hoV hgV hfV hoN hgN hfN).drew
          obtain rfl:i=ins.length:=by omega
          have hnt:(ins.map (·.nm)).take ins.length=ins.map (·.nm):=List.take_of_length_le (by rw [List.length_map];exact Nat.le_refl _);have hvt:(x.map limP).take ins.length=x.map limP:=List.take_of_length_le (by rw [List.length_map,HXLN.out];exact Nat.le_refl _);dsimp only at hnv;rw [hnt,hvt] at hnv;have HNV:=Hi hnv;have HBZ:=Hi hbz;clear hnt hvt hnv hbz hbzw hli hsz;go_wp2;go_loopg [27,28,170] (rs.length+1) (fun g vN vV v wy=>MnD wq (fun i=>ins.map (·.nm)++(rs.map (·.nm)).take i) (fun i=>x.map limP++vals.take i) ins.length rs.length g vN vV v wy)
          case atStart=>exact ⟨0,Nat.zero_le _,by omega,rfl,by show NvW _ _ _ _ (ins.map (·.nm)++(rs.map (·.nm)).take 0) (x.map limP++vals.take 0) ins.length;rw [List.take_zero,List.take_zero,List.append_nil,List.append_nil];exact HNV.out,HBZ.out⟩
          case round =>
            rename World=>wy
            obtain ⟨i,hi,hgi,rfl,hnv,hby⟩:=hrel;have hsy:=hby.size;have hbyw:=zac HBQ.out hby HBQ.out.size;clear HNV HBZ;obtain ⟨AN,cN,rfl,-,-⟩:=zag hnv.nr;obtain ⟨AV,cV,rfl,-,-⟩:=zag hnv.vr
            by_cases hli:i<rs.length
            case pos =>
              as_aux_lemma =>
                obtain ⟨b,o,r,hA,hSb,hrx,hrn,-,y0',y1'⟩:=rlAt (HR0.out.mono RlC.mono (fun _ q=>q) (zab hbyw fun _ q=>q)) hli;have hiv:i<vals.length:=by rw [HVL.out];exact hli
                have hva:=HVAq.out.keep (hby.block _ hgvl);obtain ⟨z,hz⟩:∃ z,vals[i]? = some z:=⟨_,List.getElem?_eq_getElem hiv⟩;obtain ⟨u0,-⟩:=hva.get hz;have hA2:A0=some ⟨b,o,none⟩:=hA;subst hA2;obtain ⟨nm,tx⟩:=r;dsimp only at hrn y0' y1';have hbb:b<wy.heap.size:=by have q':b<w.heap.size:=hSb;omega
                have hgvy:w6.heap.size<wy.heap.size:=by omega
                have HNS:=Hi (show (rs.map (·.nm)).take (i+1)=(rs.map (·.nm)).take i++[nm] by rw [List.take_add_one,List.getElem?_map,hrx];rfl);have HVS:=Hi (show vals.take (i+1)=vals.take i++[z] by rw [List.take_add_one,hz];rfl);have hn:=hnv.nr.alloc (Obj.cells #[.string ⟨nm.toArray⟩,.string ⟨tx.toArray⟩] 46);have hv:=hnv.vr.alloc (Obj.cells #[.string ⟨nm.toArray⟩,.string ⟨tx.toArray⟩] 46);have HN:=Hi hn;have HV:=Hi hv;have HAP:=Hi hnv.ap;have HBX:=Hi (zaa wy (Obj.cells #[.string ⟨nm.toArray⟩,.string ⟨tx.toArray⟩] 46));have hsu:=World.size_alloc wy (Obj.cells #[.string ⟨nm.toArray⟩,.string ⟨tx.toArray⟩] 46);have hnew:=heap_alloc_new wy (Obj.cells #[.string ⟨nm.toArray⟩,.string ⟨tx.toArray⟩] 46)
                have hld:∀ W:World,(∀ g,g<(wy.alloc (Obj.cells #[.string ⟨nm.toArray⟩,.string ⟨tx.toArray⟩] 46)).heap.size→(Value.slice AN (ins.length+i) cN).ownBlock≠some g→(Value.slice AV (ins.length+i) cV).ownBlock≠some g→W.heap[g]? = (wy.alloc (Obj.cells #[.string ⟨nm.toArray⟩,.string ⟨tx.toArray⟩] 46)).heap[g]?) →
                    W.cell? ⟨wy.heap.size,0,none⟩=some (.string ⟨nm.toArray⟩)∧W.cell? ⟨w6.heap.size,i,none⟩=some (.int .i64 z):=fun W h=>by
                  have e1:=(h wy.heap.size (by omega) (fun q=>Nat.lt_irrefl _ (hnv.nr.lt _ q).2) (fun q=>Nat.lt_irrefl _ (hnv.vr.lt _ q).2)).trans hnew;have e2:=h w6.heap.size (by omega) (fun q=>by have:=(hnv.nr.lt _ q).1;omega) (fun q=>by have:=(hnv.vr.lt _ q).1;omega);exact ⟨by simp [World.cell?,e1],(World.cell?_of_block e2).trans ((World.cell?_alloc_lt wy _ ⟨w6.heap.size,i,none⟩ hgvy).trans u0)⟩
                have HLD:=Hi hld;have HM1:=Hi (show ins.length+i+1≤maxLen by unfold maxLen;omega);have HM2:=Hi (show (ins.length+i+1)*8≤140737488355328 by omega);have HM3:=Hi (show (ins.length+i+1)*16≤140737488355328 by omega);have HBU:=Hi (show wq.heap.size≤(wy.alloc (Obj.cells #[.string ⟨nm.toArray⟩,.string ⟨tx.toArray⟩] 46)).heap.size by omega);have HBY:=Hi hby
                obtain ⟨t0,t1⟩:=hld _ (fun _ _ _ _=>rfl);clear hn hv hld hnew hnv hby hbyw hrx hz hSb hrn hva hiv;go_upto_region 39 with fail
                clear y0' y1' u0;generalize wy.alloc (Obj.cells #[.string ⟨nm.toArray⟩,.string ⟨tx.toArray⟩] 46)=U at *;have HBU2:=Hi (zac HBY.out HBX.out HBY.out.size)
                go_region_held3 (fun w'=>w'.cell? ⟨wy.heap.size,0,none⟩=some (.string ⟨nm.toArray⟩)∧w'.cell? ⟨w6.heap.size,i,none⟩=some (.int .i64 z)) (first | exact ⟨t0,t1⟩ | exact HLD.out _ (fun g h1 h2 h3=>by (try simp only [hpm]);(repeat rw [if_neg (by omega)]);first | rfl | exact hgN.block g h1 (fun q=>h2 q.symm) | exact hgV.block g h1 (fun q=>h3 q.symm) | exact (hgV.block g (by omega) (fun q=>h3 q.symm)).trans (hgN.block g h1 (fun q=>h2 q.symm)) | exact (hgN.block g (by omega) (fun q=>h2 q.symm)).trans (hgV.block g h1 (fun q=>h3 q.symm))) | go_keep)
                  (first
                   | (first | (refine zaN (U:=wm) (u := .string ⟨nm.toArray⟩) (te := 9) (o:=⟨some 179,_,_,_,_,_⟩) _ _ 31 rfl rfl Tryz.underlying31 HTN.out.1 HTN.out.2.1 HTN.out.2.2.1 HTN.out.2.2.2 rfl (by rfl) (by rfl) hoN5 (by repeat (first | exact World.grownBy.refl _ _ | refine zaK ?_ _ | refine zbQ ?_)) (by first | ((try simp only [hpm]);(repeat (first | rw [if_pos (by omega)] | rw [if_neg (by omega)]));done) | (rw [hkV.block _ (by (try simp only [hpm]);omega) (ze2 HV.out (by omega))];(try simp only [hpm]);(repeat (first | rw [if_pos (by omega)] | rw [if_neg (by omega)]));done)) rfl HM1.out HM3.out (by have:=HBU.out;omega) ?_;intro AN' cN' wn hoN hkN hgN hfN hsN) | fail)
                   | (first | (refine zaN (U:=wm) (u := .int .i64 z) (te := 3) (o:=⟨some 186,_,_,_,_,_⟩) _ _ 38 rfl rfl Tryz.underlying38 HTI.out.1 HTI.out.2.1 HTI.out.2.2.1 HTI.out.2.2.2 rfl (by rfl) (by rfl) hoV5 (by repeat (first | exact World.grownBy.refl _ _ | refine zaK ?_ _ | refine zbQ ?_)) (by first | ((try simp only [hpm]);(repeat (first | rw [if_pos (by omega)] | rw [if_neg (by omega)]));done) | (rw [hkN.block _ (by (try simp only [hpm]);omega) (ze2 HN.out (by omega))];(try simp only [hpm]);(repeat (first | rw [if_pos (by omega)] | rw [if_neg (by omega)]));done)) rfl HM1.out HM2.out (by have:=HBU.out;omega) ?_;intro AV' cV' wn hoV hkV hgV hfV hsV) | fail)
                   | (first | ((refine zaN (U:=U) (u := .string ⟨nm.toArray⟩) (te := 9) (o:=⟨some 179,_,_,_,_,_⟩) _ _ 31 rfl rfl Tryz.underlying31 HTN.out.1 HTN.out.2.1 HTN.out.2.2.1 HTN.out.2.2.2 rfl (by rfl) (by rfl) HN.out (by repeat (first | exact World.grownBy.refl _ _ | refine zaK ?_ _ | refine zbQ ?_)) (by (try simp only [hpm]);(repeat (first | rw [if_pos (by omega)] | rw [if_neg (by omega)]))) rfl HM1.out HM3.out HBU.out ?_;intro AN' cN' wm hoN hkN hgN hfN hsN);have hoV5:=zam HV.out (fun g e hl=>hgN.block g hl (fun q=>HAP.out g q.symm e));obtain ⟨t0,t1⟩:=HLD.out wm (fun g h1 h2 h3=>hgN.block g h1 (fun q=>h2 q.symm))) | fail)
                   | (first | ((refine zaN (U:=U) (u := .int .i64 z) (te := 3) (o:=⟨some 186,_,_,_,_,_⟩) _ _ 38 rfl rfl Tryz.underlying38 HTI.out.1 HTI.out.2.1 HTI.out.2.2.1 HTI.out.2.2.2 rfl (by rfl) (by rfl) HV.out (by repeat (first | exact World.grownBy.refl _ _ | refine zaK ?_ _ | refine zbQ ?_)) (by (try simp only [hpm]);(repeat (first | rw [if_pos (by omega)] | rw [if_neg (by omega)]))) rfl HM1.out HM2.out HBU.out ?_;intro AV' cV' wm hoV hkV hgV hfV hsV);have hoN5:=zam HN.out (fun g e hl=>hgV.block g hl (fun q=>HAP.out g e q.symm));obtain ⟨t0,t1⟩:=HLD.out wm (fun g h1 h2 h3=>hgV.block g h1 (fun q=>h3 q.symm))) | fail))
                all_goals
                  go_wp2;go_roundg (rs.length-i)
                  case measure=>omega
                  case rel =>
                    refine zg4 (i:=i) (U:=U) ?_ HBU2.out (by omega) (by omega) (by go_num)
                    show NvR U wq.heap.size (ins.map (·.nm)++(rs.map (·.nm)).take (i+1)) (x.map limP++vals.take (i+1)) (ins.length+(i+1)) _ _ _
                    rw [HNS.out,HVS.out,← List.append_assoc,← List.append_assoc,← Nat.add_assoc]
                    first
                      | exact zj7 HN.out HV.out HAP.out hoN hgN hfN hoV hgV hfV
                      | exact zj8 HN.out HV.out HAP.out hoV hgV hfV hoN hgN hfN
                      | exact (zj7 HN.out HV.out HAP.out hoN hgN hfN hoV hgV hfV).drew
                      | exact (zj8 HN.out HV.out HAP.out hoV hgV hfV hoN hgN hfN).drew
            obtain rfl:i=rs.length:=by omega
            have hnt:(rs.map (·.nm)).take rs.length=rs.map (·.nm):=List.take_of_length_le (by rw [List.length_map];exact Nat.le_refl _);have hvt:vals.take rs.length=vals:=List.take_of_length_le (by rw [HVL.out];exact Nat.le_refl _);dsimp only at hnv;rw [hnt,hvt] at hnv;have HNV:=Hi hnv;have HBY:=Hi hby
            have HKY:=Hi (KB.of_below (S:=fun g=>g=w6.heap.size∨g=w7.heap.size∨wq.heap.size≤g) hby);clear hnt hvt hnv hby hbyw hli hsy
            as_aux_lemma =>
              go_wp2;go_loopg [26,190] (trs.length+1) (fun g v26 v190 wt=>MnT wq w6.heap.size (ins.map (·.nm)++rs.map (·.nm)) (x.map limP) trs (Rv,Rc,Rk) (ins.length+rs.length) w6.heap.size rs.length rs.length w7.heap.size p.cells.length p.cells.length (.slice AN (ins.length+rs.length) cN) (.slice AV (ins.length+rs.length) cV) g v26 v190 wt)
              case atStart=>exact ⟨0,vals,cs,0,Nat.zero_le _,by omega,rfl,rfl,by rw [List.drop_zero];exact HR.out,by rw [List.drop_zero];exact HRO.out,HVAq.out.keep (HBY.out.block _ hgvl),HCEq.out.keep (HBY.out.block _ hgcl),HNV.out,HKY.out⟩
              case round =>
                rename World=>wt
                obtain ⟨i,vals',cs',kk,hi,hgi,rfl,rfl,hrt,hro,hva,hce,hnv,hkt⟩:=hrel;have hst:=hkt.size;have hgvt:=hva.lt;have hgct:=hce.lt;have HVAT:=Hi hva;have HCET:=Hi hce;have HNVT:=Hi hnv;have HKT:=Hi hkt;have hbtw:Below w.heap.size w wt:=HBQ.out.trans (hkt.below (by omega) (fun g q=>by rcases q with q | q | q <;> omega));have HBT:=Hi hbtw
                by_cases hli:i<trs.length
                case pos =>
                  as_aux_lemma =>
                    have hk2:KeepOn (fun b=>b<w2.heap.size) w2 wt:=fun b hb=>by
                      have hb':b<w2.heap.size:=hb;have h1:=HB13.out.block b hb';have h2:=HB14.out.block b (by omega);have h3:=HB56.out.block b (by omega);have h4:=HBQ6.out.block b (by omega);have h5:=hkt.block b (by omega) (by omega);exact h5.trans (h4.trans (h3.trans (h2.trans h1)))
                    obtain ⟨bb,o,op2,nn2,nm2,A6,c6,ys,hA,hSb,hky,hcc,hmm,hpp,hrr,hxb⟩:=exAt (HXT.out.mono ExV.mono (S':=fun b=>b<w2.heap.size) (fun _ q=>q) hk2) hli;have hA2:A7=some ⟨bb,o,none⟩:=hA;subst hA2;obtain ⟨y0',y1',y2',y3'⟩:=hxb
                    have hgt:trs[i] = .mk op2 nn2 nm2 ys:=by
                      rw [List.getElem?_eq_getElem hli] at hky;injection hky
                    rw [List.drop_eq_getElem_cons hli,hgt] at hrt hro;obtain ⟨hro1,hro2⟩:=hro;have hrt2:zck (ins.map (·.nm)++rs.map (·.nm)) (x.map limP) (trs.drop (i+1)) (i+1) (vals'.set i (zaX (ins.map (·.nm)++rs.map (·.nm)) (x.map limP++vals') 16 (.mk op2 nn2 nm2 ys) cs' kk).v) (zaX (ins.map (·.nm)++rs.map (·.nm)) (x.map limP++vals') 16 (.mk op2 nn2 nm2 ys) cs' kk).cs (zaX (ins.map (·.nm)++rs.map (·.nm)) (x.map limP++vals') 16 (.mk op2 nn2 nm2 ys) cs' kk).k=(Rv,Rc,Rk):=hrt;have hokk:=HTO.out _ (List.mem_of_getElem? hky);have hys:ys.length≤9223372036854775807:=by unfold maxLen at hmm;omega
                    have hbx:=zaa wt (Obj.cells #[.int .i64 op2,.int .i64 nn2,.string ⟨nm2.toArray⟩,.slice A6 ys.length c6] 48);have hkS:=zab (S:=fun b=>b<wt.heap.size∧b≠w7.heap.size) hbx (fun b q=>q.1);have hvl':vals'.length=rs.length:=hva.len;have hal:(x.map limP++vals').length=ins.length+rs.length:=by rw [List.length_append,List.length_map,HXLN.out,hvl']
                    have hnl:(ins.map (·.nm)++rs.map (·.nm)).length=ins.length+rs.length:=by rw [List.length_append,List.length_map,List.length_map]
                    have hrN:Rw NmC 1 wt (fun b=>b<wt.heap.size∧b≠w7.heap.size) AN (ins.map (·.nm)++rs.map (·.nm)).length (ins.map (·.nm)++rs.map (·.nm)):=by
                      refine Rw.of_own (f:=fun s=>[nmV s]) (base:=wq.heap.size) (e := 9) (c:=cN) ?_ rfl (fun _ _=>rfl) (fun s q=>⟨rfl,?_⟩) (fun b h1 h2=>⟨h2,by omega⟩)
                      · rw [← List.map_eq_flatMap,hnl]
                        exact hnv.nr
                      · rcases List.mem_append.1 q with q | q
                        · obtain ⟨s',hs',rfl⟩:=List.mem_map.1 q
                          obtain ⟨cs0,hc0⟩:=zdi HR1.out s' hs'
                          exact hc0.2.1
                        · obtain ⟨s',hs',rfl⟩:=List.mem_map.1 q
                          obtain ⟨cs0,hc0⟩:=zdi HR0.out s' hs'
                          exact hc0.2.1
                    have hrV:Rw IaC 1 wt (fun b=>b<wt.heap.size∧b≠w7.heap.size) AV (x.map limP++vals').length (x.map limP++vals'):=by
                      refine Rw.of_own (f:=fun s=>[Value.int .i64 s]) (base:=wq.heap.size) (e := 3) (c:=cV) ?_ rfl (fun _ _=>rfl) (fun s q=>rfl) (fun b h1 h2=>⟨h2,by omega⟩)
                      rw [← List.map_eq_flatMap,hal];exact hnv.vr
                    have C1:=zjt (ins.map (·.nm)++rs.map (·.nm)) (x.map limP++vals') AN AV cN cV w6.heap.size w7.heap.size p.cells.length p.cells.length (fun b=>b<wt.heap.size∧b≠w7.heap.size) (fun q=>q.2 rfl) (by omega) (by omega) (by omega) 15 op2 nn2 nm2 A6 c6 ys cs' kk (wt.alloc (Obj.cells #[.int .i64 op2,.int .i64 nn2,.string ⟨nm2.toArray⟩,.slice A6 ys.length c6] 48))
                      hokk hpp hys (fun b q=>by rw [World.size_alloc];have:=q.1;omega) ((hrr.mono ExV.mono (S':=fun b=>b<wt.heap.size∧b≠w7.heap.size) (fun b q=>by have q':b<w2.heap.size:=q;exact ⟨by omega,by omega⟩) (KeepOn.refl _ _)).mono ExV.mono (fun _ q=>q) hkS) hro1 (hce.keep (hbx.block _ hgct)) (by omega) (hrN.mono NmC.mono (fun _ q=>q) hkS) (hrV.mono IaC.mono (fun _ q=>q) hkS)
                    rw [hnl,hal] at C1;unfold exV at C1;obtain ⟨tv,htv⟩:∃ tv,zaX (ins.map (·.nm)++rs.map (·.nm)) (x.map limP++vals') 16 (.mk op2 nn2 nm2 ys) cs' kk=tv:=⟨_,rfl⟩;have htv':zaX (ins.map (·.nm)++rs.map (·.nm)) (x.map limP++vals') (15+1) (.mk op2 nn2 nm2 ys) cs' kk=tv:=htv;rw [htv'] at C1;rw [htv] at hrt2 hro2;obtain ⟨tv1,tcs,tk⟩:=tv;dsimp only at hrt2 hro2;have HC1:=Hi C1;have HRT2:=Hi hrt2;have HRO2:=Hi hro2;have HBX:=Hi hbx;have HVL2:=Hi hvl';have hbk2:bb<wt.heap.size:=by have q':bb<w2.heap.size:=hSb;omega
                    have hitr:i<rs.length:=by have:=HTL.out;omega
                    obtain ⟨ga,capA,hva4,hglo,-⟩:=hnv.vr.form (show 0<ins.length+rs.length by omega);have hAV:AV=some ⟨ga,0,none⟩:=by injection hva4
                    subst hAV;have HSA:=Hi (World.size_alloc wt (Obj.cells #[.int .i64 op2,.int .i64 nn2,.string ⟨nm2.toArray⟩,.slice A6 ys.length c6] 48));clear hk2 hky hgt hrt hro1 hro2 hrt2 hokk hpp hcc hrr hkS hrN hrV C1 htv htv' hSb hbx hva hce hnv hkt hbtw hvl' hal hnl hva4;unfold maxLen at hmm;go_wp2_with fail
                    refine HC1.out.mono ?_
                    rintro e w10 ⟨rfl,hce10,hkb10⟩
                    dsimp only at hce10 ⊢;have hsa:=HSA.out;have hs10:=hkb10.size;have hk10:KB (fun g=>g=w7.heap.size) wt w10:=(KB.of_below HBX.out).trans hkb10;have hva10:=HVAT.out.keep (hk10.block _ hgvt hgc);have hnv10:=HNVT.out.keep (fun g h1 h2=>hk10.block g h2 (by omega));obtain ⟨zi,hzi⟩:∃ z,vals'[i]? = some z:=⟨_,List.getElem?_eq_getElem (by rw [HVL2.out];exact hitr)⟩;obtain ⟨u0,v0⟩:=hva10.get hzi;have ho10:=hnv10.vr;have hga10:=ho10.lt ga rfl;have hallen:(x.map limP++vals').length=ins.length+rs.length:=by rw [List.length_append,List.length_map,HXLN.out,HVL2.out]
                    have u1:w10.cell? ⟨ga,ins.length+i,none⟩=some (.int .i64 zi):=(ho10.cellAt (ins.length+i) (by omega)).trans (by rw [List.getElem?_map,List.getElem?_append_right (by rw [List.length_map,HXLN.out];omega),List.length_map,HXLN.out,Nat.add_sub_cancel_left,hzi];rfl);have v1:=ho10.frozenAt (ins.length+i);have HVA10:=Hi (hva10.set i tv1);have hst1:=(ho10.stored (ins.length+i) (.int .i64 tv1)).1
                    have hset:((x.map limP++vals').map (Value.int .i64)).set (ins.length+i) (.int .i64 tv1)=(x.map limP++vals'.set i tv1).map (Value.int .i64):=by
                      rw [← List.map_set,List.set_append_right _ _ (by rw [List.length_map,HXLN.out];omega),List.length_map,HXLN.out,Nat.add_sub_cancel_left]
                    have HCE10:=Hi hce10;have HNV10:=Hi hnv10;have HK10:=Hi hk10;have HSET:=Hi hset;have hiI:(i:Int)<(rs.length:Int):=by omega
                    have hiA:(ins.length:Int)+(i:Int)<((ins.length+rs.length:Nat):Int):=by omega
                    have hiW:IntKind.i64.wrap ((ins.length:Int)+(i:Int))=((ins.length+i:Nat):Int):=by rw [IntWalk.i64_in _ (by omega)];omega
                    have hiN:((ins.length:Int)+(i:Int)).toNat=ins.length+i:=by omega
                    have hlg0:w6.heap.size<w10.heap.size:=by omega
                    have hnga:w6.heap.size≠ga:=by omega
                    have hngc:w7.heap.size≠ga:=by omega
                    have u1':(w10.setCell ⟨w6.heap.size,i,none⟩ (.int .i64 tv1)).cell? ⟨ga,ins.length+i,none⟩=some (.int .i64 zi):=(World.cell?_of_block (zcq w10 i _ (Ne.symm hnga))).trans u1;have v1':(w10.setCell ⟨w6.heap.size,i,none⟩ (.int .i64 tv1)).frozen? ⟨ga,ins.length+i,none⟩=false:=(World.frozen?_of_block (zcq w10 i _ (Ne.symm hnga))).trans v1;clear hce10 hkb10 hk10 hva10 hnv10 ho10 hzi hst1 hset hallen HC1;go_wp2;go_roundg (trs.length-i)
                    case measure=>omega
                    case rel =>
                      refine ⟨i+1,vals'.set i tv1,tcs,tk,by omega,by omega,by go_num,rfl,HRT2.out,HRO2.out,?_,?_,?_,?_⟩
                      · exact HVA10.out.keep (zcq _ _ _ hnga)
                      · exact HCE10.out.keep ((zcq _ _ _ hngc).trans (zcq _ _ _ (Ne.symm hgc)))
                      · have hn:=HNV10.out.nr
                        have hk:∀ g,(Value.slice AN (ins.length+rs.length) cN).ownBlock=some g→g≠ga∧g≠w6.heap.size:=fun g q=>⟨fun e=>HNV10.out.ap g q (by rw [e];rfl),by have:=(hn.lt g q).1;omega⟩
                        refine ⟨zam hn (fun g e _=>(zcq _ _ _ (hk g e).1).trans (zcq _ _ _ (hk g e).2)),?_,HNV10.out.ap⟩
                        rw [← HSET.out]
                        exact ((zam HNV10.out.vr (w':=w10.setCell ⟨w6.heap.size,i,none⟩ (.int .i64 tv1)) (fun g e _=>zcq _ _ _ (by have e':some ga=some g:=e;injection e' with e';omega))).stored (ins.length+i) (.int .i64 tv1)).1
                      · exact zbV (zbV (HKT.out.trans (HK10.out.mono (fun g _ q => .inr (.inl q)))) _ _ _ (fun _ => .inl rfl)) _ _ _ (fun _ => .inr (.inr (by omega)))
                obtain rfl:i=trs.length:=by omega
                rw [List.drop_length] at hrt;have hrt':(vals',cs',kk)=(Rv,Rc,Rk):=hrt;injection hrt' with e1 e2
                injection e2 with e2 e3
                subst e1;subst e2;subst e3;clear hrt hro hva hce hnv hkt hli
                have hk6:KeepOn (fun b=>b<w6.heap.size) w6 wt:=fun b hb=>by
                  have hb':b<w6.heap.size:=hb;exact (HKT.out.block b (by omega) (by omega)).trans (HBQ6.out.block b hb')
                obtain ⟨b9,o9,x9,A9,c9,hA9,hS9,hx9,hx9c,hx9m,hx9r,y9⟩:=lsAt (HR5.out.mono LsC.mono (S':=fun b=>b<w6.heap.size) (fun b q=>q.2) (hk6.mono fun b q=>q.2)) (show k<L.length by rw [HLL.out];exact hlt);rw [HLK.out] at hx9;injection hx9 with hx9
                subst hx9;have hA92:A5=some ⟨b9,o9,none⟩:=hA9;subst hA92;have hb9:b9<wt.heap.size:=by have q':b9<w6.heap.size:=hS9;omega
                have HX9:=Hi hx9r;have hkL:(k:Int)<(L.length:Int):=by rw [HLL.out];omega
                have hne3:((vals'.length:Int) != (rs.length:Int))=false:=by rw [HRL.out];simp
                have hrlI:(rs.length:Int)≤16:=by omega
                clear hk6 hx9c hx9r hS9 hbtw;go_wp2;go_loopg [226] (rs.length+1) (fun g v wu=>MnE wt vals' g v wu)
                case atStart=>exact ⟨0,Nat.zero_le _,by have:=HRL.out;omega,rfl,Below.refl _ _⟩
                case round =>
                  rename World=>wu
                  obtain ⟨j,hj,hgj,rfl,hbu⟩:=hrel;have hsu:=hbu.size;have HBU:=Hi hbu;have y9':=(World.cell?_of_block (a:=⟨b9,o9+k,none⟩) (hbu.block b9 hb9)).trans y9;have hb9u:b9<wu.heap.size:=by omega
                  by_cases hlj:j<vals'.length
                  case neg =>
                    have hjr:¬ (j:Int)<(rs.length:Int):=by have:=HRL.out;omega
                    have HKTU:=Hi (HKT.out.trans (KB.of_below hbu));have HVU:=Hi (HVAT.out.keep (hbu.block _ hgvt));have HCU:=Hi (HCET.out.keep (hbu.block _ hgct));clear hbu hlj;go_wp2;go_roundg (xs.length-k)
                    case measure=>omega
                    case rel=>exact ⟨k+1,vals',cs',_,by omega,by omega,by go_num,HRU2.out,by rw [List.length_append,HLLk.out];rfl,HVO2.out,HCK2.out,HVU.out,HCU.out,HBQ6.out.trans (HKTU.out.below (by omega) (fun g q=>by rcases q with q | q | q <;> omega))⟩
                  have hjr:(j:Int)<(rs.length:Int):=by have:=HRL.out;omega
                  have hjv:(j:Int)<(vals'.length:Int):=by omega
                  obtain ⟨z,hz⟩:∃ z,vals'[j]? = some z:=⟨_,List.getElem?_eq_getElem hlj⟩;obtain ⟨u0,-⟩:=(HVAT.out.keep (hbu.block _ hgvt)).get hz;obtain ⟨b8,o8,z',hA8,hSb8,hz8,u1⟩:=iaAt (HX9.out.mono IaC.mono (S':=fun b=>b<w6.heap.size) (fun _ q=>q) (fun b q=>hbu.block b (by have q':b<w6.heap.size:=q;omega))) hlj;subst hA8;rw [hz] at hz8;injection hz8 with hz8
                  subst hz8;have hb8u:b8<wu.heap.size:=by have q':b8<w6.heap.size:=hSb8;omega
                  have hg6u:w6.heap.size<wu.heap.size:=by omega
                  clear hbu hz hSb8;go_upto_region 53 with fail
                  go_region
                  go_wp2;go_roundg (vals'.length-j)
                  case measure=>omega
                  case rel =>
                    first
                      | exact ⟨j+1,by omega,by omega,by go_num,HBU.out⟩
                      | exact ⟨j+1,by omega,by omega,by go_num,zad HBU.out⟩
end Go.Proofs.YtcikenlflcofbaaGreatDoor
