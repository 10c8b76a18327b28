/-
  The tokens of a text: the reference's cut.
-/
import Derived.Test.YtcikenlflcofbaaGreatDoorKRdX
import Derived.Test.YtcikenlflcofbaaGreatDoorToks
import Derived.Test.YtcikenlflcofbaaGreatDoorRdr
set_option maxRecDepth 100000
set_option maxHeartbeats 8000000
namespace Go.Proofs.YtcikenlflcofbaaGreatDoor
open Go.RowKit
def tkC (k:Tok):List Value:=[.int .i64 k.kind,.string ⟨k.text.toArray⟩,.int .i64 k.pos]
theorem infoTk:(Tryz.prog.info? 99).map (fun i=>(i.zero,i.size,i.bytes))=some (some (.agg #[.int .i64 0,.string ⟨#[]⟩,.int .i64 0]),3,32):=by kernel_rfl
theorem zeq (k:Tok):∀ u∈tkC k,u.oneCell'=true:=by
  intro u hu;simp only [tkC,List.mem_cons,List.not_mem_nil,or_false] at hu
  rcases hu with rfl | rfl | rfl <;> rfl
def RetCut (r:Except (Int × Int) (List Tok)) (w:World) (e:Ending) (w':World):Prop:=match r with
  | .error (a,er)=>e = .returned (.tuple #[.slice Option.none 0 0,.int .i64 a,.int .i64 er])∧Below w.heap.size w w'
  | .ok l=>∃ v,e = .returned (.tuple #[v,.int .i64 0,.int .i64 0])∧w'.ownsRow w.heap.size 99 3 v l.length (l.flatMap tkC)∧Below w.heap.size w w'
def CuR (w:World) (t:List UInt8) (f:Nat) (v iv:Value) (wr:World):Prop:=
  ∃ i acc,zbX t f i acc=za9 t∧i≤t.length∧t.length-i<f∧acc.length≤i∧iv = .int .i64 (i:Int)∧wr.ownsRow w.heap.size 99 3 v acc.length (acc.flatMap tkC)∧Below w.heap.size w wr
theorem big_of {c:UInt8} {q:List UInt8} (hd:zaq c=true) (h:5<(c::q).length):32767<decV (c::q)∨(1<(c::q).length∧c=48):=by
  by_cases h0:c=48
  · exact .inr ⟨by omega,h0⟩
  · refine .inl (Nat.lt_of_not_le fun hv => ?_)
    have:=zgX hd h0 hv
    simp only [List.length_cons] at h
    omega
theorem zgW (t:List UInt8) (hl:t.length≤1000) (w:World):Calls Tryz.prog 42 #[.string ⟨t.toArray⟩] w (RetCut (za9 t) w):=by
  obtain ⟨ti,hti,hzi⟩:=Option.map_eq_some_iff.1 infoTk;obtain ⟨hz0,hz1,hz2⟩:ti.zero=some (.agg #[.int .i64 0,.string ⟨#[]⟩,.int .i64 0])∧ti.size=3∧ti.bytes=32:=by simpa using hzi
  have HTI:=Hi (And.intro hti (And.intro hz0 (And.intro hz1 hz2)));clear hti hzi hz0 hz1 hz2;go_enter Tryz.func42,Tryz.ntmps42;go_wp2;go_loopg [5,6] (t.length+1) (fun f v iv wr=>CuR w t f v iv wr)
  case atStart=>exact ⟨0,[],rfl,Nat.zero_le _,by omega,Nat.le_refl _,rfl,⟨rfl,.inl ⟨rfl,rfl⟩⟩,Below.refl _ _⟩
  case round =>
    obtain ⟨i,acc,hst,hi,hf,hai,rfl,hown,hbel⟩:=hrel;have hsz:=hbel.size;obtain ⟨Av,cv,rfl,hv1,hv2⟩:=zag hown
    cases gk with
    | zero=>exact absurd hf (by omega)
    | succ f =>
    unfold zbX at hst;have HOW:=Hi hown;clear hown
    by_cases hlt:i<t.length
    case neg =>
      obtain rfl:i=t.length:=by omega
      rw [List.getElem?_eq_none (Nat.le_refl _)] at hst;have HST:=Hi (show Except.ok acc=za9 t from hst);clear hst hlt hv1 hv2;go_wp2;refine bodyPost_ret (v := .tuple #[.slice Av acc.length cv,.int .i64 0,.int .i64 0]) (by simp [results,Tryz.results42,go_sem]) rfl ?_
      rw [← HST.out];exact ⟨_,rfl,HOW.out,hbel⟩
    have hc:=List.getElem?_eq_getElem hlt;generalize hcc:t[i]=c at *;have hkb:({ data:=t.toArray }:ByteArray)[i]'(by show i<t.toArray.size;simpa using hlt)=c:=by subst hcc;rfl
    clear hcc;rw [hc] at hst;simp only [] at hst;have HC:=Hi hc;clear hc
    by_cases c1:c=32
    · subst c1
      have HST:=Hi (show zbX t f (i+1) acc=za9 t from hst)
      have d1:(((32:UInt8).toNat:Int) == 32)=true:=by decide
      clear hst
      go_wp2
      go_roundg f
      case measure=>omega
      case rel=>exact ⟨i+1,acc,HST.out,by omega,by omega,by omega,by go_num,HOW.out,hbel⟩
    have n32:((c.toNat:Int) == 32)=false:=by
      have:c.toNat≠32:=fun q=>c1 (UInt8.toNat.inj q)
      simp;omega
    unfold zgI at hst;rw [if_neg (by simpa using c1)] at hst
    by_cases c2:zaH c=true
    · rw [if_pos c2] at hst
      obtain ⟨R,hR⟩:∃ R,runB zbh t (i+1)=R:=⟨_,rfl⟩
      have hRb:=zdx zbh t (i+1)
      rw [hR] at hst hRb
      have hR1:i+1≤R:=hRb.1
      have hR2:R≤t.length:=hRb.2 (by omega)
      have HIN:=Hi (fun j (h1:i+1≤j) (h2:j<R)=>zhi (p:=zbh) (t:=t) h1 (by rw [hR];exact h2))
      have HOUT:=Hi (fun c' (h:t[R]? = some c')=>zff (p:=zbh) (t:=t) (a:=i+1) (by rw [hR];exact h))
      have C2:=fun W=>zbo c W
      rw [c2] at C2
      have HC2:=Hi C2
      have HST:=Hi hst
      clear C2 hst hR hRb
      go_wp2_with fail
      refine (HC2.out _).mono ?_
      rintro e' w9 ⟨rfl,rfl⟩
      go_wp2_with fail
      go_loopg [8] (R-i) (fun g v wr2=>EndR wr i R g v wr2)
      case atStart=>exact ⟨i+1,Nat.le_refl _,hR1,by omega,by go_num,rfl⟩
      case round =>
        obtain ⟨j,hj1,hj2,hg,rfl,rfl⟩:=hrel
        by_cases hjR:j<R
        · obtain ⟨d,hd,hwd⟩:=HIN.out j hj1 hjR
          have Hd:=Hi hd
          have hjl:j<t.length:=by omega
          have hkb_d:({ data:=t.toArray }:ByteArray)[j]'(by show j<t.toArray.size;simpa using hjl)=d:=zbe Hd.out
          have CL:=fun W=>zbo d W
          have CD:=fun W=>zaP d W
          unfold zbh at hwd
          clear hd
          cases hld:zaH d with
          | true =>
            rw [hld] at CL
            have HCL:=Hi CL
            clear CL CD hwd hld
            go_wp2_with fail
            refine (HCL.out _).mono ?_
            rintro e' w9 ⟨rfl,rfl⟩
            go_wp2
            go_roundg (R-j)
            case measure=>omega
            case rel=>exact ⟨j+1,by omega,by omega,by omega,by go_num,rfl⟩
          | false =>
            rw [hld] at CL hwd
            cases hdd:zaq d with
            | true =>
              rw [hdd] at CD
              have HCL:=Hi CL
              have HCD:=Hi CD
              clear CL CD hwd hld hdd
              go_wp2_with fail
              refine (HCL.out _).mono ?_
              rintro e' w9 ⟨rfl,rfl⟩
              go_wp2_with fail
              refine (HCD.out _).mono ?_
              rintro e' w9 ⟨rfl,rfl⟩
              go_wp2
              go_roundg (R-j)
              case measure=>omega
              case rel=>exact ⟨j+1,by omega,by omega,by omega,by go_num,rfl⟩
            | false =>
              rw [hdd] at CD hwd
              have h95:((d.toNat:Int) == 95)=true:=by
                have:d=95:=by simpa using hwd
                subst this
                decide
              have HCL:=Hi CL
              have HCD:=Hi CD
              clear CL CD hwd hld hdd
              go_wp2_with fail
              refine (HCL.out _).mono ?_
              rintro e' w9 ⟨rfl,rfl⟩
              go_wp2_with fail
              refine (HCD.out _).mono ?_
              rintro e' w9 ⟨rfl,rfl⟩
              go_wp2
              go_roundg (R-j)
              case measure=>omega
              case rel=>exact ⟨j+1,by omega,by omega,by omega,by go_num,rfl⟩
        · obtain rfl:j=R:=by omega
          have hst2:=HST.out
          by_cases h12:12<j-i
          · rw [if_pos h12] at hst2
            have HGO:=Hi (show Except.error ((i:Int),7)=za9 t from hst2)
            have d12:(12:Int)<(j:Int)-(i:Int):=by omega
            clear hst2 HST h12
            by_cases hjl:j<t.length
            · obtain ⟨d,hd⟩:∃ d,t[j]? = some d:=⟨_,List.getElem?_eq_getElem hjl⟩
              have hwd:=HOUT.out d hd
              have Hd:=Hi hd
              have hkb_d:({ data:=t.toArray }:ByteArray)[j]'(by show j<t.toArray.size;simpa using hjl)=d:=zbe Hd.out
              have CL:=fun W=>zbo d W
              have CD:=fun W=>zaP d W
              unfold zbh at hwd
              simp only [Bool.or_eq_false_iff] at hwd
              rw [hwd.1.1] at CL
              rw [hwd.1.2] at CD
              have h95:((d.toNat:Int) == 95)=false:=by
                have h1:=hwd.2
                have:d≠95:=by simpa using h1
                have:d.toNat≠95:=fun q=>this (UInt8.toNat.inj q)
                simp;omega
              have HCL:=Hi CL
              have HCD:=Hi CD
              clear CL CD hwd hd
              go_wp2_with fail
              refine (HCL.out _).mono ?_
              rintro e' w9 ⟨rfl,rfl⟩
              go_wp2_with fail
              refine (HCD.out _).mono ?_
              rintro e' w9 ⟨rfl,rfl⟩
              go_wp2
              refine bodyPost_ret (v := .tuple #[.slice Option.none 0 0,.int .i64 (i:Int),.int .i64 7]) (by simp [results,Tryz.results42,go_sem]) rfl ?_
              rw [← HGO.out]
              exact ⟨rfl,hbel⟩
            · have HJ:=Hi (show j=t.length by omega)
              go_wp2
              refine bodyPost_ret (v := .tuple #[.slice Option.none 0 0,.int .i64 (i:Int),.int .i64 7]) (by simp [results,Tryz.results42,go_sem]) rfl ?_
              rw [← HGO.out]
              exact ⟨rfl,hbel⟩
          · rw [if_neg h12] at hst2
            have d12:¬ (12:Int)<(j:Int)-(i:Int):=by omega
            obtain ⟨s,hs⟩:∃ s,cutB t i j=s:=⟨_,rfl⟩
            have hext:ByteArray.extract { data:=t.toArray } i j=⟨s.toArray⟩:=by rw [zdq,hs]
            rw [hs] at hst2
            have HGO:=Hi (show zbX t f j (acc++[⟨1,s,(i:Int),0⟩])=za9 t from hst2)
            clear hst2 HST h12 hs
            by_cases hjl:j<t.length
            · obtain ⟨d,hd⟩:∃ d,t[j]? = some d:=⟨_,List.getElem?_eq_getElem hjl⟩
              have hwd:=HOUT.out d hd
              have Hd:=Hi hd
              have hkb_d:({ data:=t.toArray }:ByteArray)[j]'(by show j<t.toArray.size;simpa using hjl)=d:=zbe Hd.out
              have CL:=fun W=>zbo d W
              have CD:=fun W=>zaP d W
              unfold zbh at hwd
              simp only [Bool.or_eq_false_iff] at hwd
              rw [hwd.1.1] at CL
              rw [hwd.1.2] at CD
              have h95:((d.toNat:Int) == 95)=false:=by
                have h1:=hwd.2
                have:d≠95:=by simpa using h1
                have:d.toNat≠95:=fun q=>this (UInt8.toNat.inj q)
                simp;omega
              have HCL:=Hi CL
              have HCD:=Hi CD
              clear CL CD hwd hd
              go_wp2_with fail
              refine (HCL.out _).mono ?_
              rintro e' w9 ⟨rfl,rfl⟩
              go_wp2_with fail
              refine (HCD.out _).mono ?_
              rintro e' w9 ⟨rfl,rfl⟩
              have HM1:=Hi (show acc.length+1≤maxLen by unfold maxLen;omega)
              have HM2:=Hi (show (acc.length+1)*32≤140737488355328 by omega)
              have on1:=Hi (zeq ⟨1,s,(i:Int),0⟩)
              go_wp2_with (at_builtin;refine zaI (o:=⟨some 64,_,_,_,_,_⟩) _ _ 91 rfl rfl Tryz.underlying91 HTI.out.1 HTI.out.2.1 HTI.out.2.2.1 HTI.out.2.2.2 rfl (by decide) rfl HOW.out hbel _ rfl rfl rfl on1.out HM2.out HM1.out hsz ?_;intro v2 w2 hown2 hbel2 hsz2)
              obtain ⟨A2,c2',rfl,-,-⟩:=zag hown2
              go_roundg f
              case measure=>omega
              case rel =>
                refine ⟨j,acc++[⟨1,s,(i:Int),0⟩],HGO.out,by omega,by omega,?_,by first | rfl | go_num,?_,hbel2⟩
                · simp only [List.length_append,List.length_singleton]
                  omega
                · rw [List.flatMap_append]
                  simpa [tkC] using hown2
            · have HJ:=Hi (show j=t.length by omega)
              have HM1:=Hi (show acc.length+1≤maxLen by unfold maxLen;omega)
              have HM2:=Hi (show (acc.length+1)*32≤140737488355328 by omega)
              have on1:=Hi (zeq ⟨1,s,(i:Int),0⟩)
              go_wp2_with (at_builtin;refine zaI (o:=⟨some 64,_,_,_,_,_⟩) _ _ 91 rfl rfl Tryz.underlying91 HTI.out.1 HTI.out.2.1 HTI.out.2.2.1 HTI.out.2.2.2 rfl (by decide) rfl HOW.out hbel _ rfl rfl rfl on1.out HM2.out HM1.out hsz ?_;intro v2 w2 hown2 hbel2 hsz2)
              obtain ⟨A2,c2',rfl,-,-⟩:=zag hown2
              go_roundg f
              case measure=>omega
              case rel =>
                refine ⟨j,acc++[⟨1,s,(i:Int),0⟩],HGO.out,by omega,by omega,?_,by first | rfl | go_num,?_,hbel2⟩
                · simp only [List.length_append,List.length_singleton]
                  omega
                · rw [List.flatMap_append]
                  simpa [tkC] using hown2
    rw [if_neg c2] at hst;have C2:=fun W=>zbo c W
    rw [show zaH c=false by simpa using c2] at C2;have HC2:=Hi C2;clear C2 c2
    by_cases c3:zaq c=true
    · rw [if_pos c3] at hst
      obtain ⟨R,hR⟩:∃ R,runB zaq t (i+1)=R:=⟨_,rfl⟩
      have hRb:=zdx zaq t (i+1)
      have hcut:=zeT zaq t i c HC.out
      have hall:=zbt zaq (t.drop (i+1))
      rw [hR] at hst hRb hcut
      obtain ⟨q,hq⟩:∃ q,(t.drop (i+1)).takeWhile zaq=q:=⟨_,rfl⟩
      rw [hq] at hcut hall
      have hR1:i+1≤R:=hRb.1
      have hR2:R≤t.length:=hRb.2 (by omega)
      have HIN:=Hi (fun j (h1:i+1≤j) (h2:j<R)=>zhi (p:=zaq) (t:=t) h1 (by rw [hR];exact h2))
      have HOUT:=Hi (fun c' (h:t[R]? = some c')=>zff (p:=zaq) (t:=t) (a:=i+1) (by rw [hR];exact h))
      have hqd:(c::q).all zaq=true:=by simp [c3,hall]
      have hql:(c::q).length=R-i:=by
        have:=congrArg List.length hcut
        unfold cutB at this
        rw [List.length_drop,List.length_take] at this
        rw [← this]
        omega
      have hext:ByteArray.extract { data:=t.toArray } i R=⟨(c::q).toArray⟩:=by rw [zdq,hcut]
      rw [hcut] at hst
      have HCD0:=Hi c3
      have C3:=fun W=>zaP c W
      rw [c3] at C3
      have HC3:=Hi C3
      have HST:=Hi hst
      have HQD:=Hi hqd
      have HLN:=Hi hql
      clear C3 hst hR hRb hcut hall hq hqd hql c3
      go_wp2_with fail
      refine (HC2.out _).mono ?_
      rintro e' w9 ⟨rfl,rfl⟩
      go_wp2_with fail
      refine (HC3.out _).mono ?_
      rintro e' w9 ⟨rfl,rfl⟩
      go_wp2_with fail
      go_loopg [8] (R-i) (fun g v wr2=>EndR wr i R g v wr2)
      case atStart=>exact ⟨i+1,Nat.le_refl _,hR1,by omega,by go_num,rfl⟩
      case round =>
        obtain ⟨j,hj1,hj2,hg,rfl,rfl⟩:=hrel
        by_cases hjR:j<R
        · obtain ⟨d,hd,hwd⟩:=HIN.out j hj1 hjR
          have Hd:=Hi hd
          have hjl:j<t.length:=by omega
          have hkb_d:({ data:=t.toArray }:ByteArray)[j]'(by show j<t.toArray.size;simpa using hjl)=d:=zbe Hd.out
          have CD:=fun W=>zaP d W
          rw [hwd] at CD
          have HCD:=Hi CD
          clear hd CD hwd
          go_wp2_with fail
          refine (HCD.out _).mono ?_
          rintro e' w9 ⟨rfl,rfl⟩
          go_wp2
          go_roundg (R-j)
          case measure=>omega
          case rel=>exact ⟨j+1,by omega,by omega,by omega,by go_num,rfl⟩
        · obtain rfl:j=R:=by omega
          have hst2:=HST.out
          by_cases hbig:32767<decV (c::q)∨(1<(c::q).length∧c=48)
          · rw [if_pos hbig] at hst2
            have HGO:=Hi (show Except.error ((i:Int),2)=za9 t from hst2)
            clear hst2 HST
            by_cases h48:c=48∧i+1<j
            · have t48:((c.toNat:Int) == 48)=true:=by rw [h48.1];decide
              have tj:(i:Int)+1<(j:Int):=by omega
              clear h48
              by_cases hjl:j<t.length
              · obtain ⟨d,hd⟩:∃ d,t[j]? = some d:=⟨_,List.getElem?_eq_getElem hjl⟩
                have hwd:=HOUT.out d hd
                have Hd:=Hi hd
                have hkb_d:({ data:=t.toArray }:ByteArray)[j]'(by show j<t.toArray.size;simpa using hjl)=d:=zbe Hd.out
                have CD:=fun W=>zaP d W
                rw [hwd] at CD
                have HCD:=Hi CD
                clear hd CD hwd
                go_wp2_with fail
                refine (HCD.out _).mono ?_
                rintro e' w9 ⟨rfl,rfl⟩
                go_wp2
                refine bodyPost_ret (v := .tuple #[.slice Option.none 0 0,.int .i64 (i:Int),.int .i64 2]) (by simp [results,Tryz.results42,go_sem]) rfl ?_
                rw [← HGO.out]
                exact ⟨rfl,hbel⟩
              · have HJ:=Hi (show j=t.length by omega)
                go_wp2
                refine bodyPost_ret (v := .tuple #[.slice Option.none 0 0,.int .i64 (i:Int),.int .i64 2]) (by simp [results,Tryz.results42,go_sem]) rfl ?_
                rw [← HGO.out]
                exact ⟨rfl,hbel⟩
            have T1:((c.toNat:Int) == 48)=true∧¬ (i:Int)+1<(j:Int)∨((c.toNat:Int) == 48)=false:=by
              by_cases h0:c=48
              · exact .inl ⟨by rw [h0];decide,fun q=>h48 ⟨h0,by omega⟩⟩
              · refine .inr ?_
                have:c.toNat≠48:=fun q=>h0 (UInt8.toNat.inj q)
                simp;omega
            by_cases h5:5<j-i
            · have t5:(5:Int)<(j:Int)-(i:Int):=by omega
              clear h48
              rcases T1 with ⟨t48,tj⟩ | t48
              · by_cases hjl:j<t.length
                · obtain ⟨d,hd⟩:∃ d,t[j]? = some d:=⟨_,List.getElem?_eq_getElem hjl⟩
                  have hwd:=HOUT.out d hd
                  have Hd:=Hi hd
                  have hkb_d:({ data:=t.toArray }:ByteArray)[j]'(by show j<t.toArray.size;simpa using hjl)=d:=zbe Hd.out
                  have CD:=fun W=>zaP d W
                  rw [hwd] at CD
                  have HCD:=Hi CD
                  clear hd CD hwd
                  go_wp2_with fail
                  refine (HCD.out _).mono ?_
                  rintro e' w9 ⟨rfl,rfl⟩
                  go_wp2
                  refine bodyPost_ret (v := .tuple #[.slice Option.none 0 0,.int .i64 (i:Int),.int .i64 2]) (by simp [results,Tryz.results42,go_sem]) rfl ?_
                  rw [← HGO.out]
                  exact ⟨rfl,hbel⟩
                · have HJ:=Hi (show j=t.length by omega)
                  go_wp2
                  refine bodyPost_ret (v := .tuple #[.slice Option.none 0 0,.int .i64 (i:Int),.int .i64 2]) (by simp [results,Tryz.results42,go_sem]) rfl ?_
                  rw [← HGO.out]
                  exact ⟨rfl,hbel⟩
              · by_cases hjl:j<t.length
                · obtain ⟨d,hd⟩:∃ d,t[j]? = some d:=⟨_,List.getElem?_eq_getElem hjl⟩
                  have hwd:=HOUT.out d hd
                  have Hd:=Hi hd
                  have hkb_d:({ data:=t.toArray }:ByteArray)[j]'(by show j<t.toArray.size;simpa using hjl)=d:=zbe Hd.out
                  have CD:=fun W=>zaP d W
                  rw [hwd] at CD
                  have HCD:=Hi CD
                  clear hd CD hwd
                  go_wp2_with fail
                  refine (HCD.out _).mono ?_
                  rintro e' w9 ⟨rfl,rfl⟩
                  go_wp2
                  refine bodyPost_ret (v := .tuple #[.slice Option.none 0 0,.int .i64 (i:Int),.int .i64 2]) (by simp [results,Tryz.results42,go_sem]) rfl ?_
                  rw [← HGO.out]
                  exact ⟨rfl,hbel⟩
                · have HJ:=Hi (show j=t.length by omega)
                  go_wp2
                  refine bodyPost_ret (v := .tuple #[.slice Option.none 0 0,.int .i64 (i:Int),.int .i64 2]) (by simp [results,Tryz.results42,go_sem]) rfl ?_
                  rw [← HGO.out]
                  exact ⟨rfl,hbel⟩
            have t5:¬ (5:Int)<(j:Int)-(i:Int):=by omega
            have hvb:32767<decV (c::q):=by
              rcases hbig with h | ⟨h1,h2⟩
              · exact h
              · exfalso
                have:=HLN.out
                exact h48 ⟨h2,by omega⟩
            have HCV:=Hi (fun W=>zdm (c::q) HQD.out (by have:=HLN.out;omega) W)
            obtain ⟨n,hn⟩:∃ n:Int,((decV (c::q):Nat):Int)=n:=⟨_,rfl⟩
            have tn:(32767:Int)<n:=by omega
            rw [hn] at HCV
            clear hvb hn h48 hbig
            rcases T1 with ⟨t48,tj⟩ | t48
            · by_cases hjl:j<t.length
              · obtain ⟨d,hd⟩:∃ d,t[j]? = some d:=⟨_,List.getElem?_eq_getElem hjl⟩
                have hwd:=HOUT.out d hd
                have Hd:=Hi hd
                have hkb_d:({ data:=t.toArray }:ByteArray)[j]'(by show j<t.toArray.size;simpa using hjl)=d:=zbe Hd.out
                have CD:=fun W=>zaP d W
                rw [hwd] at CD
                have HCD:=Hi CD
                clear hd CD hwd
                go_wp2_with fail
                refine (HCD.out _).mono ?_
                rintro e' w9 ⟨rfl,rfl⟩
                go_wp2_with fail
                refine (HCV.out _).mono ?_
                rintro e' w9 ⟨rfl,rfl⟩
                go_wp2
                refine bodyPost_ret (v := .tuple #[.slice Option.none 0 0,.int .i64 (i:Int),.int .i64 2]) (by simp [results,Tryz.results42,go_sem]) rfl ?_
                rw [← HGO.out]
                exact ⟨rfl,hbel⟩
              · have HJ:=Hi (show j=t.length by omega)
                go_wp2_with fail
                refine (HCV.out _).mono ?_
                rintro e' w9 ⟨rfl,rfl⟩
                go_wp2
                refine bodyPost_ret (v := .tuple #[.slice Option.none 0 0,.int .i64 (i:Int),.int .i64 2]) (by simp [results,Tryz.results42,go_sem]) rfl ?_
                rw [← HGO.out]
                exact ⟨rfl,hbel⟩
            · by_cases hjl:j<t.length
              · obtain ⟨d,hd⟩:∃ d,t[j]? = some d:=⟨_,List.getElem?_eq_getElem hjl⟩
                have hwd:=HOUT.out d hd
                have Hd:=Hi hd
                have hkb_d:({ data:=t.toArray }:ByteArray)[j]'(by show j<t.toArray.size;simpa using hjl)=d:=zbe Hd.out
                have CD:=fun W=>zaP d W
                rw [hwd] at CD
                have HCD:=Hi CD
                clear hd CD hwd
                go_wp2_with fail
                refine (HCD.out _).mono ?_
                rintro e' w9 ⟨rfl,rfl⟩
                go_wp2_with fail
                refine (HCV.out _).mono ?_
                rintro e' w9 ⟨rfl,rfl⟩
                go_wp2
                refine bodyPost_ret (v := .tuple #[.slice Option.none 0 0,.int .i64 (i:Int),.int .i64 2]) (by simp [results,Tryz.results42,go_sem]) rfl ?_
                rw [← HGO.out]
                exact ⟨rfl,hbel⟩
              · have HJ:=Hi (show j=t.length by omega)
                go_wp2_with fail
                refine (HCV.out _).mono ?_
                rintro e' w9 ⟨rfl,rfl⟩
                go_wp2
                refine bodyPost_ret (v := .tuple #[.slice Option.none 0 0,.int .i64 (i:Int),.int .i64 2]) (by simp [results,Tryz.results42,go_sem]) rfl ?_
                rw [← HGO.out]
                exact ⟨rfl,hbel⟩
          · rw [if_neg hbig] at hst2
            have hq48:¬ (c=48∧i+1<j):=fun h=>hbig (.inr ⟨by have:=HLN.out;omega,h.1⟩)
            have t5:¬ (5:Int)<(j:Int)-(i:Int):=fun h=>hbig (big_of HCD0.out (by have:=HLN.out;omega))
            have T1:((c.toNat:Int) == 48)=true∧¬ (i:Int)+1<(j:Int)∨((c.toNat:Int) == 48)=false:=by
              by_cases h0:c=48
              · exact .inl ⟨by rw [h0];decide,fun q=>hq48 ⟨h0,by omega⟩⟩
              · refine .inr ?_
                have:c.toNat≠48:=fun q=>h0 (UInt8.toNat.inj q)
                simp;omega
            have HCV:=Hi (fun W=>zdm (c::q) HQD.out (by have:=HLN.out;omega) W)
            obtain ⟨n,hn⟩:∃ n:Int,((decV (c::q):Nat):Int)=n:=⟨_,rfl⟩
            have tn:¬ (32767:Int)<n:=fun h=>hbig (.inl (by omega))
            rw [hn] at hst2 HCV
            have HGO:=Hi (show zbX t f j (acc++[⟨2,c::q,(i:Int),n⟩])=za9 t from hst2)
            clear hst2 HST hbig hn hq48
            rcases T1 with ⟨t48,tj⟩ | t48
            · by_cases hjl:j<t.length
              · obtain ⟨d,hd⟩:∃ d,t[j]? = some d:=⟨_,List.getElem?_eq_getElem hjl⟩
                have hwd:=HOUT.out d hd
                have Hd:=Hi hd
                have hkb_d:({ data:=t.toArray }:ByteArray)[j]'(by show j<t.toArray.size;simpa using hjl)=d:=zbe Hd.out
                have CD:=fun W=>zaP d W
                rw [hwd] at CD
                have HCD:=Hi CD
                clear hd CD hwd
                go_wp2_with fail
                refine (HCD.out _).mono ?_
                rintro e' w9 ⟨rfl,rfl⟩
                go_wp2_with fail
                refine (HCV.out _).mono ?_
                rintro e' w9 ⟨rfl,rfl⟩
                have HM1:=Hi (show acc.length+1≤maxLen by unfold maxLen;omega)
                have HM2:=Hi (show (acc.length+1)*32≤140737488355328 by omega)
                have on1:=Hi (zeq ⟨2,c::q,(i:Int),n⟩)
                go_wp2_with (at_builtin;refine zaI (o:=⟨some 111,_,_,_,_,_⟩) _ _ 91 rfl rfl Tryz.underlying91 HTI.out.1 HTI.out.2.1 HTI.out.2.2.1 HTI.out.2.2.2 rfl (by decide) rfl HOW.out hbel _ rfl rfl rfl on1.out HM2.out HM1.out hsz ?_;intro v2 w2 hown2 hbel2 hsz2)
                obtain ⟨A2,c2',rfl,-,-⟩:=zag hown2
                go_roundg f
                case measure=>omega
                case rel =>
                  refine ⟨j,acc++[⟨2,c::q,(i:Int),n⟩],HGO.out,by omega,by omega,?_,by first | rfl | go_num,?_,hbel2⟩
                  · simp only [List.length_append,List.length_singleton]
                    omega
                  · rw [List.flatMap_append]
                    simpa [tkC] using hown2
              · have HJ:=Hi (show j=t.length by omega)
                go_wp2_with fail
                refine (HCV.out _).mono ?_
                rintro e' w9 ⟨rfl,rfl⟩
                have HM1:=Hi (show acc.length+1≤maxLen by unfold maxLen;omega)
                have HM2:=Hi (show (acc.length+1)*32≤140737488355328 by omega)
                have on1:=Hi (zeq ⟨2,c::q,(i:Int),n⟩)
                go_wp2_with (at_builtin;refine zaI (o:=⟨some 111,_,_,_,_,_⟩) _ _ 91 rfl rfl Tryz.underlying91 HTI.out.1 HTI.out.2.1 HTI.out.2.2.1 HTI.out.2.2.2 rfl (by decide) rfl HOW.out hbel _ rfl rfl rfl on1.out HM2.out HM1.out hsz ?_;intro v2 w2 hown2 hbel2 hsz2)
                obtain ⟨A2,c2',rfl,-,-⟩:=zag hown2
                go_roundg f
                case measure=>omega
                case rel =>
                  refine ⟨j,acc++[⟨2,c::q,(i:Int),n⟩],HGO.out,by omega,by omega,?_,by first | rfl | go_num,?_,hbel2⟩
                  · simp only [List.length_append,List.length_singleton]
                    omega
                  · rw [List.flatMap_append]
                    simpa [tkC] using hown2
            · by_cases hjl:j<t.length
              · obtain ⟨d,hd⟩:∃ d,t[j]? = some d:=⟨_,List.getElem?_eq_getElem hjl⟩
                have hwd:=HOUT.out d hd
                have Hd:=Hi hd
                have hkb_d:({ data:=t.toArray }:ByteArray)[j]'(by show j<t.toArray.size;simpa using hjl)=d:=zbe Hd.out
                have CD:=fun W=>zaP d W
                rw [hwd] at CD
                have HCD:=Hi CD
                clear hd CD hwd
                go_wp2_with fail
                refine (HCD.out _).mono ?_
                rintro e' w9 ⟨rfl,rfl⟩
                go_wp2_with fail
                refine (HCV.out _).mono ?_
                rintro e' w9 ⟨rfl,rfl⟩
                have HM1:=Hi (show acc.length+1≤maxLen by unfold maxLen;omega)
                have HM2:=Hi (show (acc.length+1)*32≤140737488355328 by omega)
                have on1:=Hi (zeq ⟨2,c::q,(i:Int),n⟩)
                go_wp2_with (at_builtin;refine zaI (o:=⟨some 111,_,_,_,_,_⟩) _ _ 91 rfl rfl Tryz.underlying91 HTI.out.1 HTI.out.2.1 HTI.out.2.2.1 HTI.out.2.2.2 rfl (by decide) rfl HOW.out hbel _ rfl rfl rfl on1.out HM2.out HM1.out hsz ?_;intro v2 w2 hown2 hbel2 hsz2)
                obtain ⟨A2,c2',rfl,-,-⟩:=zag hown2
                go_roundg f
                case measure=>omega
                case rel =>
                  refine ⟨j,acc++[⟨2,c::q,(i:Int),n⟩],HGO.out,by omega,by omega,?_,by first | rfl | go_num,?_,hbel2⟩
                  · simp only [List.length_append,List.length_singleton]
                    omega
                  · rw [List.flatMap_append]
                    simpa [tkC] using hown2
              · have HJ:=Hi (show j=t.length by omega)
                go_wp2_with fail
                refine (HCV.out _).mono ?_
                rintro e' w9 ⟨rfl,rfl⟩
                have HM1:=Hi (show acc.length+1≤maxLen by unfold maxLen;omega)
                have HM2:=Hi (show (acc.length+1)*32≤140737488355328 by omega)
                have on1:=Hi (zeq ⟨2,c::q,(i:Int),n⟩)
                go_wp2_with (at_builtin;refine zaI (o:=⟨some 111,_,_,_,_,_⟩) _ _ 91 rfl rfl Tryz.underlying91 HTI.out.1 HTI.out.2.1 HTI.out.2.2.1 HTI.out.2.2.2 rfl (by decide) rfl HOW.out hbel _ rfl rfl rfl on1.out HM2.out HM1.out hsz ?_;intro v2 w2 hown2 hbel2 hsz2)
                obtain ⟨A2,c2',rfl,-,-⟩:=zag hown2
                go_roundg f
                case measure=>omega
                case rel =>
                  refine ⟨j,acc++[⟨2,c::q,(i:Int),n⟩],HGO.out,by omega,by omega,?_,by first | rfl | go_num,?_,hbel2⟩
                  · simp only [List.length_append,List.length_singleton]
                    omega
                  · rw [List.flatMap_append]
                    simpa [tkC] using hown2
    rw [if_neg c3] at hst;have C3:=fun W=>zaP c W
    rw [show zaq c=false by simpa using c3] at C3;have HC3:=Hi C3;have C4:=fun W=>zib c W
    clear C3 c3
    by_cases c4:symB c=true
    · rw [if_pos c4] at hst
      rw [c4] at C4
      have HC4:=Hi C4
      have hx1:cutB t i (i+1)=[c]:=by
        unfold cutB
        rw [List.drop_take,show i+1-i=1 by omega]
        obtain ⟨h1,h2⟩:=List.getElem?_eq_some_iff.1 HC.out
        rw [List.drop_eq_getElem_cons h1,h2]
        rfl
      have hext:ByteArray.extract { data:=t.toArray } i (i+1)=⟨[c].toArray⟩:=by rw [zdq,hx1]
      have HGO:=Hi (show zbX t f (i+1) (acc++[⟨3,[c],(i:Int),0⟩])=za9 t from hst)
      clear hst hx1 c4 C4
      go_wp2_with fail
      refine (HC2.out _).mono ?_
      rintro e' w9 ⟨rfl,rfl⟩
      go_wp2_with fail
      refine (HC3.out _).mono ?_
      rintro e' w9 ⟨rfl,rfl⟩
      go_wp2_with fail
      refine (HC4.out _).mono ?_
      rintro e' w9 ⟨rfl,hb9⟩
      have hs9:=hb9.size
      have hown9:=Hi (zbg HOW.out hb9 (Nat.le_refl _))
      have hbel9:=hbel.trans (hb9.mono hsz)
      have hsz9:w.heap.size≤w9.heap.size:=Nat.le_trans hsz hs9
      have HM1:=Hi (show acc.length+1≤maxLen by unfold maxLen;omega)
      have HM2:=Hi (show (acc.length+1)*32≤140737488355328 by omega)
      have on1:=Hi (zeq ⟨3,[c],(i:Int),0⟩)
      go_wp2_with (at_builtin;refine zaI (o:=⟨some 123,_,_,_,_,_⟩) _ _ 91 rfl rfl Tryz.underlying91 HTI.out.1 HTI.out.2.1 HTI.out.2.2.1 HTI.out.2.2.2 rfl (by decide) rfl hown9.out hbel9 _ rfl rfl rfl on1.out HM2.out HM1.out hsz9 ?_;intro v2 w2 hown2 hbel2 hsz2)
      obtain ⟨A2,c2',rfl,-,-⟩:=zag hown2
      go_roundg f
      case measure=>omega
      case rel =>
        refine ⟨(i+1),acc++[⟨3,[c],(i:Int),0⟩],HGO.out,by omega,by omega,?_,by first | rfl | go_num,?_,hbel2⟩
        · simp only [List.length_append,List.length_singleton]
          omega
        · rw [List.flatMap_append]
          simpa [tkC] using hown2
    · rw [if_neg c4] at hst
      rw [show symB c=false by simpa using c4] at C4
      have HC4:=Hi C4
      have HGO:=Hi (show Except.error ((i:Int),5)=za9 t from hst)
      clear hst c4 C4
      go_wp2_with fail
      refine (HC2.out _).mono ?_
      rintro e' w9 ⟨rfl,rfl⟩
      go_wp2_with fail
      refine (HC3.out _).mono ?_
      rintro e' w9 ⟨rfl,rfl⟩
      go_wp2_with fail
      refine (HC4.out _).mono ?_
      rintro e' w9 ⟨rfl,hb9⟩
      have hbel9:=hbel.trans (hb9.mono hsz)
      go_wp2
      refine bodyPost_ret (v := .tuple #[.slice Option.none 0 0,.int .i64 (i:Int),.int .i64 5]) (by simp [results,Tryz.results42,go_sem]) rfl ?_
      rw [← HGO.out]
      exact ⟨rfl,hbel9⟩
end Go.Proofs.YtcikenlflcofbaaGreatDoor
