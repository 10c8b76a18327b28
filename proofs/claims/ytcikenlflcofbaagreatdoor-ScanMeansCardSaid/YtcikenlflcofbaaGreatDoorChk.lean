/-
  The kind of an expression: signature, check and Check of the program.
-/
import Derived.Test.YtcikenlflcofbaaGreatDoorKVfH
set_option maxRecDepth 100000
set_option maxHeartbeats 8000000
namespace Go.Proofs.YtcikenlflcofbaaGreatDoor
open Go.RowKit
def zig (r:Int × Int) (w:World) (e:Ending) (w':World):Prop:=e = .returned (.tuple #[.int .i64 r.1,.int .i64 r.2])∧Below w.heap.size w w'
theorem zfi (op:Int) (w:World) (hr:1≤op∧op≤22):Calls Tryz.prog 80 #[.int .i64 op] w fun e w'=>e = .returned (.tuple #[.int .i64 (sigP op).1,.int .i64 (sigP op).2])∧w=w':=by
  have hop:op=1∨op=2∨op=3∨op=4∨op=5∨op=6∨op=7∨op=8∨op=9∨op=10∨op=11∨op=12∨op=13∨op=14∨op=15∨op=16∨op=17∨op=18∨op=19∨op=20∨op=21∨op=22:=by omega
  clear hr
  rcases hop with rfl | rfl | rfl | rfl | rfl | rfl | rfl | rfl | rfl | rfl | rfl | rfl | rfl | rfl | rfl | rfl | rfl | rfl | rfl | rfl | rfl | rfl
  all_goals
    go_enter Tryz.func80,Tryz.ntmps80;go_wp2;refine bodyPost_ret (v := .tuple #[.int .i64 (sigP _).1,.int .i64 (sigP _).2]) ?_ rfl ⟨rfl,rfl⟩
    simp [results,Tryz.results80,go_sem,sigP]
theorem zft (f:Ex→Int × Int) (acc:List Int) (k:Ex) (ks:List Ex):chkL f acc (k::ks)=if (f k).2=0 then chkL f (acc++[(f k).1]) ks else .error (f k).2:=rfl
theorem two_of {l:List Int} (h:l.length=2):∃ a b,l=[a,b]:=by
  match l,h with
  | [a,b],_=>exact ⟨a,b,rfl⟩
theorem zcX {env:List Sg} {nm:List UInt8} {l:List Int} {r:Int × Int} (h:(match zay env nm with | none=>(0,9) | some k=>(k,0))=r):chkN env 3 nm l=r:=h
theorem zgo {env:List Sg} {nm:List UInt8} {l:List Int}:chkN env 16 nm l=if l.getD 0 0≠1∨l.getD 1 0≠l.getD 2 0 then (0,10) else (l.getD 1 0,0):=rfl
theorem zfu {env:List Sg} {op:Int} {nm:List UInt8} {l:List Int} (h3:op≠3) (h16:op≠16):chkN env op nm l=if l.all (fun k=>decide (k=(sigP op).1)) then ((sigP op).2,0) else (0,10):=by
  unfold chkN;rw [if_neg h3,if_neg h16]
structure Ar3 (w:World) (b:Nat) (x y z:Int):Prop where
  heap:w.heap[b]? = some (.cells #[.int .i64 x,.int .i64 y,.int .i64 z] 138 (0,0))
theorem Ar3.lt {w:World} {b:Nat} {x y z:Int} (h:Ar3 w b x y z):b<w.heap.size:=(Array.getElem?_eq_some_iff.1 h.heap).1
theorem Ar3.cells {w:World} {b:Nat} {x y z:Int} (h:Ar3 w b x y z) :
    w.cell? ⟨b,0,none⟩=some (.int .i64 x)∧w.cell? ⟨b,1,none⟩=some (.int .i64 y)∧w.cell? ⟨b,2,none⟩=some (.int .i64 z) ∧
    w.frozen? ⟨b,0,none⟩=false∧w.frozen? ⟨b,1,none⟩=false∧w.frozen? ⟨b,2,none⟩=false:=by
  have hh:=h.heap;exact ⟨by simp [World.cell?,hh],by simp [World.cell?,hh],by simp [World.cell?,hh],Lib.frozen_of_heap hh 0,Lib.frozen_of_heap hh 1,Lib.frozen_of_heap hh 2⟩
theorem Ar3.below {w w':World} {b:Nat} {x y z:Int} (h:Ar3 w b x y z) (hb:Below w.heap.size w w'):Ar3 w' b x y z:=⟨(hb.block b h.lt).trans h.heap⟩
theorem Ar3.set0 {w:World} {b:Nat} {x y z:Int} (h:Ar3 w b x y z) (v:Int):Ar3 (w.setCell ⟨b,0,none⟩ (.int .i64 v)) b v y z:=⟨by have:=heap_setCell_same w b 0 _ _ (.int .i64 v) h.heap;rw [this];rfl⟩
theorem Ar3.set1 {w:World} {b:Nat} {x y z:Int} (h:Ar3 w b x y z) (v:Int):Ar3 (w.setCell ⟨b,1,none⟩ (.int .i64 v)) b x v z:=⟨by have:=heap_setCell_same w b 1 _ _ (.int .i64 v) h.heap;rw [this];rfl⟩
theorem Ar3.set2 {w:World} {b:Nat} {x y z:Int} (h:Ar3 w b x y z) (v:Int):Ar3 (w.setCell ⟨b,2,none⟩ (.int .i64 v)) b x y v:=⟨by have:=heap_setCell_same w b 2 _ _ (.int .i64 v) h.heap;rw [this];rfl⟩
def CkR (w:World) (mb mn:Nat) (env:List Sg) (op n:Int) (nm:List UInt8) (A:Option Addr) (c d:Nat) (ks:List Ex) (total:Except Int (List Int)) (g:Nat) (v:Value) (wr:World):Prop:=
  ∃ (k:Nat) (acc:List Int),acc.length=k∧k≤ks.length∧ks.length-k<g∧v = .int .i64 (k:Int)∧chkL (chkG env d) acc (ks.drop k)=total∧XV wr w.heap.size op n nm A ks.length c∧Ar3 wr (w.heap.size+1) (acc.getD 0 0) (acc.getD 1 0) (acc.getD 2 0)∧KMap wr mb mn env∧Below w.heap.size w wr
def CkS (W:World) (acc:List Int) (s1:Int) (n:Nat) (g:Nat) (v:Value) (wq:World):Prop:=∃ k:Nat,k≤n∧n-k<g∧v = .int .i64 (k:Int)∧wq=W∧∀ j,j<k→acc.getD j 0=s1
theorem zkP {acc:List Int} {s:Int} {k:Nat} (h:∀ j,j<k→acc.getD j 0=s) (hk:acc.length≤k):acc.all (fun k=>decide (k=s))=true:=by
  rw [List.all_eq_true];intro x hx;obtain ⟨j,hj,rfl⟩:=List.getElem_of_mem hx;have:=h j (by omega);rw [List.getD_eq_getElem?_getD,List.getElem?_eq_getElem hj] at this;simpa using this
theorem ze0 {acc:List Int} {s:Int} {k:Nat} (hk:k<acc.length) (h:¬ acc.getD k 0=s):¬ acc.all (fun k=>decide (k=s))=true:=by
  intro q;rw [List.all_eq_true] at q;have:=q _ (List.getElem_mem hk);rw [List.getD_eq_getElem?_getD,List.getElem?_eq_getElem hk] at h;exact h (by simpa using this)
theorem zes {acc:List Int} {s:Int} {k:Nat} (h:∀ j,j<k→acc.getD j 0=s) (hk:acc.getD k 0=s):∀ j,j<k+1→acc.getD j 0=s:=by
  intro j hj
  rcases Nat.lt_succ_iff_lt_or_eq.1 hj with q | rfl
  · exact h j q
  · exact hk
theorem zdZ {op:Int} {k:Nat} (h:(k:Int)=zav op):k≤3∧1≤op∧op≤22∧(op=16→k=3)∧(op=3→k=0):=by
  unfold zav at h
  split at h
  · omega
  · split at h
    · omega
    · split at h
      · omega
      · split at h <;> omega
theorem zcF {op n:Int} {nm:List UInt8} {k:Nat} (h:za7 op n nm k=true):(k:Int)=zav op:=by
  unfold za7 at h;rw [Bool.and_eq_true] at h;exact of_decide_eq_true h.1
theorem zfs:∀ (d:Nat) (op n:Int) (nm:List UInt8) (A:Option Addr) (c:Nat) (ks:List Ex) (w:World) (mb mn:Nat) (env:List Sg),okG d (.mk op n nm ks)→ks.length≤c→c≤maxLen→ExP op n nm→Rw ExV 4 w (fun b=>b<w.heap.size) A ks.length ks→KMap w mb mn env →
    Calls Tryz.prog 49 #[exV op n nm A ks.length c,.map (some mb)] w (zig (chkG env d (.mk op n nm ks)) w)
  | 0,_,_,_,_,_,_,_,_,_,_,h,_,_,_,_,_=>h.elim
  | d+1,op,n,nm,A,c,ks,w,mb,mn,env,hok,hc,hm,hp,hr,hmap=>by
    have ih:=fun op n nm A c ks w=>zfs d op n nm A c ks w mb mn env
    obtain ⟨hnode,hkids⟩:=hok;obtain ⟨hk3,hop1,hop2,h16,h03⟩:=zdZ (zcF hnode);have hmb:=hmap.block
    have hv:chkG env (d+1) (.mk op n nm ks)=match chkL (chkG env d) [] ks with
      | .error e=>(0,e)
      | .ok l=>chkN env op nm l:=rfl
    have hX0:=XV.new w op n nm A ks.length c;have hX:=hX0.grown (World.grownBy_alloc (w.alloc (Obj.cells #[.int .i64 op,.int .i64 n,.string ⟨nm.toArray⟩,.slice A ks.length c] 48)) (Obj.cells #[.int .i64 0,.int .i64 0,.int .i64 0] 138) Option.none) (by simp)
    have hAr:Ar3 ((w.alloc (Obj.cells #[.int .i64 op,.int .i64 n,.string ⟨nm.toArray⟩,.slice A ks.length c] 48)).alloc (Obj.cells #[.int .i64 0,.int .i64 0,.int .i64 0] 138)) (w.heap.size+1) 0 0 0:=by
      have:=heap_alloc_new (w.alloc (Obj.cells #[.int .i64 op,.int .i64 n,.string ⟨nm.toArray⟩,.slice A ks.length c] 48)) (Obj.cells #[.int .i64 0,.int .i64 0,.int .i64 0] 138);rw [World.size_alloc] at this;exact ⟨this⟩
    have hM:=(hmap.alloc (Obj.cells #[.int .i64 op,.int .i64 n,.string ⟨nm.toArray⟩,.slice A ks.length c] 48)).alloc (Obj.cells #[.int .i64 0,.int .i64 0,.int .i64 0] 138);have hb1:=zaa w (Obj.cells #[.int .i64 op,.int .i64 n,.string ⟨nm.toArray⟩,.slice A ks.length c] 48);have hb2:=zac hb1 (zaa (w.alloc (Obj.cells #[.int .i64 op,.int .i64 n,.string ⟨nm.toArray⟩,.slice A ks.length c] 48)) (Obj.cells #[.int .i64 0,.int .i64 0,.int .i64 0] 138)) hb1.size;have HIH:=Hi ih;have HK:=Hi hkids;have HR:=Hi hr;have HV:=Hi hv;have HX:=Hi hX;have HA:=Hi hAr;have HM:=Hi hM;have HB:=Hi hb2;have H16:=Hi h16;have hnl:nm.length≤maxLen:=hp.2.2;have hsz:(⟨nm.toArray⟩:ByteArray).size≤maxLen:=by simpa [ByteArray.size] using hnl
    clear ih hkids hr hv hX0 hX hAr hM hb1 hb2 hnode hp hmap h16 h03 hnl;unfold maxLen at hm;unfold exV;go_enter Tryz.func49,Tryz.ntmps49;go_wp2;go_loopg [19] (ks.length+1) (fun g v wr=>CkR w mb mn env op n nm A c d ks (chkL (chkG env d) [] ks) g v wr)
    case atStart=>exact ⟨0,[],rfl,Nat.zero_le _,by omega,rfl,by rw [List.drop_zero],HX.out,HA.out,HM.out,HB.out⟩
    case round =>
      obtain ⟨k,acc,hal,hk,hgk,rfl,htot,hX,hAr,hM,hbel⟩:=hrel;have hsw:=hbel.size;have hal2:=hAr.lt
      by_cases hlt:k<ks.length
      case pos =>
        obtain ⟨b,o,op2,n2,nm2,A2,c2,ys,hA,hSb,hky,hc2,hm2,hp2,hr2,hxb⟩:=exAt (HR.out.mono ExV.mono (fun _ q=>q) (zab hbel fun _ q=>q)) hlt;subst hA;obtain ⟨y0,y1,y2,y3⟩:=hxb
        have hget:ks[k] = .mk op2 n2 nm2 ys:=by
          rw [List.getElem?_eq_getElem hlt] at hky;injection hky
        rw [List.drop_eq_getElem_cons hlt,hget] at htot;rw [zft] at htot;have hbx:=zaa wr (Obj.cells #[.int .i64 op2,.int .i64 n2,.string ⟨nm2.toArray⟩,.slice A2 ys.length c2] 48);have hin:Ex.mk op2 n2 nm2 ys∈ks:=hget ▸ List.getElem_mem hlt
        have C:=HIH.out op2 n2 nm2 A2 c2 ys (wr.alloc (Obj.cells #[.int .i64 op2,.int .i64 n2,.string ⟨nm2.toArray⟩,.slice A2 ys.length c2] 48)) (HK.out _ hin) hc2 hm2 hp2
          (hr2.mono ExV.mono (fun b hb=>by simp only [World.size_alloc];omega) (zab hbx fun b hb=>by omega)) (hM.alloc _)
        generalize chkG env d (.mk op2 n2 nm2 ys)=r2 at *;obtain ⟨k2,e2⟩:=r2;unfold exV at C;dsimp only at htot;have HC:=Hi C;have HT:=Hi htot;have HBX:=Hi hbx;have HX2:=Hi (hX.below hbx);have HA2:=Hi (hAr.below hbx);have HM2:=Hi (hM.alloc (Obj.cells #[.int .i64 op2,.int .i64 n2,.string ⟨nm2.toArray⟩,.slice A2 ys.length c2] 48));have HB2:=Hi (zac hbel hbx hbel.size);have hbk:b<wr.heap.size:=by omega
        have HAL:=Hi hal;clear C htot hbx hX hAr hM hbel hky hget hr2 hin hp2 HX HA HM HB hSb hal;unfold maxLen at hm2
        by_cases he:e2=0
        case neg =>
          have hne:(e2 != 0)=true:=by simp [he]
          have HT2:=Hi (show chkL (chkG env d) [] ks = .error e2 by rw [← HT.out,if_neg he]);clear he;go_wp2_with fail
          refine HC.out.mono ?_
          rintro e w5 ⟨rfl,hb5⟩
          dsimp only;have HB5:=Hi (zac HB2.out hb5 HB2.out.size);clear hb5;go_wp2;refine bodyPost_ret (v := .tuple #[.int .i64 0,.int .i64 e2]) (by simp [results,Tryz.results49,go_sem]) rfl ⟨?_,HB5.out⟩
          rw [HV.out,HT2.out]
        subst he;have HT2:=Hi (show chkL (chkG env d) (acc++[k2]) (ks.drop (k+1))=chkL (chkG env d) [] ks by rw [← HT.out,if_pos rfl]);go_wp2_with fail
        refine HC.out.mono ?_
        rintro e w5 ⟨rfl,hb5⟩
        dsimp only;have HB5:=Hi (zac HB2.out hb5 HB2.out.size);have HX5:=Hi (HX2.out.below hb5);have HA5:=Hi (HA2.out.below hb5);have HM5:=Hi (HM2.out.below hb5 HM2.out.block);have hs5:=hb5.size;simp only [World.size_alloc] at hs5;obtain ⟨q0,q1,q2,f0,f1,f2⟩:=HA5.out.cells;clear hb5;have hne1:¬ w.heap.size=w.heap.size+1:=by omega
        have hk012:k=0∨k=1∨k=2:=by omega
        have H3:∀ j,KMap (w5.setCell ⟨w.heap.size+1,j,none⟩ (.int .i64 k2)) mb mn env:=fun j=>HM5.out.kept ((zaf w5 (w.heap.size+1) j (.int .i64 k2)).block mb (by omega) (fun q=>by injection q;omega))
        have HM6:=Hi H3;clear H3
        rcases hk012 with rfl | rfl | rfl
        · obtain rfl:acc=[]:=List.length_eq_zero_iff.1 HAL.out
          go_wp2
          go_roundg (ks.length-0)
          case measure=>omega
          case rel=>exact ⟨1,[k2],rfl,by omega,by omega,by go_num,HT2.out,HX5.out.other _ hne1,HA5.out.set0 k2,HM6.out 0,HB5.out.setCell (by show w.heap.size≤w.heap.size+1;omega) _⟩
        · obtain ⟨a0,rfl⟩:∃ a0,acc=[a0]:=List.length_eq_one_iff.1 HAL.out
          go_wp2
          go_roundg (ks.length-1)
          case measure=>omega
          case rel=>exact ⟨2,[a0,k2],rfl,by omega,by omega,by go_num,HT2.out,HX5.out.other _ hne1,HA5.out.set1 k2,HM6.out 1,HB5.out.setCell (by show w.heap.size≤w.heap.size+1;omega) _⟩
        · obtain ⟨a0,a1,rfl⟩:∃ a0 a1,acc=[a0,a1]:=two_of HAL.out
          go_wp2
          go_roundg (ks.length-2)
          case measure=>omega
          case rel=>exact ⟨3,[a0,a1,k2],rfl,by omega,by omega,by go_num,HT2.out,HX5.out.other _ hne1,HA5.out.set2 k2,HM6.out 2,HB5.out.setCell (by show w.heap.size≤w.heap.size+1;omega) _⟩
      obtain rfl:k=ks.length:=by omega
      rw [List.drop_length] at htot;have hE:chkG env (d+1) (.mk op n nm ks)=chkN env op nm acc:=by rw [HV.out,← htot];rfl
      obtain ⟨x0,x1,x2,x3,-,-,-,-⟩:=hX.cells;obtain ⟨q0,q1,q2,-,-,-⟩:=hAr.cells;have HE:=Hi hE;have HBW:=Hi hbel;have HAL:=Hi hal;have hlk:=hM.look (t := 68) Tryz.underlying9 Tryz.underlying68 (zdB _) hsz true;rw [ziM] at hlk;clear hE hbel hal htot hX hAr hM HX HA HM HB HIH HK HR HV hlt
      by_cases ho3:op=3
      · subst ho3
        cases hko:zay env nm with
        | none =>
          rw [hko] at hlk
          simp only [if_true,Option.map_none,Option.getD_none,Option.isSome_none] at hlk
          have HN:=Hi (show chkN env 3 nm acc=(0,9) from zcX (by rw [hko]))
          clear hko
          go_wp2
          refine bodyPost_ret (v := .tuple #[.int .i64 0,.int .i64 9]) (by simp [results,Tryz.results49,go_sem]) rfl ⟨?_,HBW.out⟩
          rw [HE.out,HN.out]
        | some v =>
          rw [hko] at hlk
          simp only [if_true,Option.map_some,Option.getD_some,Option.isSome_some] at hlk
          have HN:=Hi (show chkN env 3 nm acc=(v,0) from zcX (by rw [hko]))
          clear hko
          go_wp2
          refine bodyPost_ret (v := .tuple #[.int .i64 v,.int .i64 0]) (by simp [results,Tryz.results49,go_sem]) rfl ⟨?_,HBW.out⟩
          rw [HE.out,HN.out]
      clear hlk
      by_cases ho16:op=16
      · subst ho16
        have HN:=Hi (@zgo env nm acc)
        generalize acc.getD 0 0=a0 at *
        generalize acc.getD 1 0=a1 at *
        generalize acc.getD 2 0=a2 at *
        by_cases h1:a0=1
        case neg =>
          have t1:(a0 != 1)=true:=by simp [h1]
          have HN2:=Hi (HN.out.trans (if_pos (.inl h1)))
          clear h1
          go_wp2
          refine bodyPost_ret (v := .tuple #[.int .i64 0,.int .i64 10]) (by simp [results,Tryz.results49,go_sem]) rfl ⟨?_,HBW.out⟩
          rw [HE.out,HN2.out]
        subst h1
        by_cases h2:a1=a2
        case neg =>
          have t2:(a1 != a2)=true:=by simp [h2]
          have HN2:=Hi (HN.out.trans (if_pos (.inr h2)))
          clear h2
          go_wp2
          refine bodyPost_ret (v := .tuple #[.int .i64 0,.int .i64 10]) (by simp [results,Tryz.results49,go_sem]) rfl ⟨?_,HBW.out⟩
          rw [HE.out,HN2.out]
        subst h2
        have t2:(a1 != a1)=false:=by simp
        have HN2:=Hi (HN.out.trans (if_neg (by simp)))
        go_wp2
        refine bodyPost_ret (v := .tuple #[.int .i64 a1,.int .i64 0]) (by simp [results,Tryz.results49,go_sem]) rfl ⟨?_,HBW.out⟩
        rw [HE.out,HN2.out]
      have o3:(op == 3)=false:=by simp [ho3]
      have o16:(op == 16)=false:=by simp [ho16]
      have HN:=Hi (@zfu env op nm acc ho3 ho16);have HC:=Hi (fun W=>zfi op W ⟨hop1,hop2⟩);generalize sigP op=sg at *;obtain ⟨s1,s2⟩:=sg;dsimp only at *;clear ho3 ho16;have HS:=Hi (HC.out wr);clear HC;obtain ⟨a0,e0⟩:∃ a0,acc.getD 0 0=a0:=⟨_,rfl⟩;obtain ⟨a1,e1⟩:∃ a1,acc.getD 1 0=a1:=⟨_,rfl⟩;obtain ⟨a2,e2⟩:∃ a2,acc.getD 2 0=a2:=⟨_,rfl⟩;rw [e0] at q0;rw [e1] at q1;rw [e2] at q2;have E0:=Hi e0;have E1:=Hi e1;have E2:=Hi e2;clear e0 e1 e2;go_wp2_with fail
      refine HS.out.mono ?_
      rintro e w5 ⟨rfl,rfl⟩
      go_wp2;go_loopg [74] (ks.length+1) (fun g v wq=>CkS wr acc s1 ks.length g v wq)
      case atStart=>exact ⟨0,Nat.zero_le _,by omega,rfl,rfl,fun j h=>absurd h (Nat.not_lt_zero _)⟩
      case round =>
        obtain ⟨k,hk,hg2,rfl,rfl,hall⟩:=hrel;have HALL:=Hi hall;clear hall
        by_cases hlt:k<ks.length
        case neg =>
          have HF:=Hi (HN.out.trans (if_pos (zkP HALL.out (by have:=HAL.out;omega))));go_wp2;refine bodyPost_ret (v := .tuple #[.int .i64 s2,.int .i64 0]) (by simp [results,Tryz.results49,go_sem]) rfl ⟨?_,HBW.out⟩
          rw [HE.out,HF.out]
        have hacc:k<acc.length:=by have:=HAL.out;omega
        by_cases hk0:k=0
        · subst hk0
          by_cases hv:a0=s1
          · have hv2:(a0 != s1)=false:=by simp [hv]
            have HF:=Hi (E0.out.trans hv)
            clear hv
            go_wp2
            go_roundg (ks.length-0)
            case measure=>omega
            case rel=>exact ⟨1,hlt,by omega,by go_num,rfl,zes HALL.out HF.out⟩
          · have hv2:(a0 != s1)=true:=by simp [hv]
            have HF:=Hi (HN.out.trans (if_neg (ze0 hacc (by rw [E0.out];exact hv))))
            clear hv
            go_wp2
            refine bodyPost_ret (v := .tuple #[.int .i64 0,.int .i64 10]) (by simp [results,Tryz.results49,go_sem]) rfl ⟨?_,HBW.out⟩
            rw [HE.out,HF.out]
        by_cases hk1:k=1
        · subst hk1
          by_cases hv:a1=s1
          · have hv2:(a1 != s1)=false:=by simp [hv]
            have HF:=Hi (E1.out.trans hv)
            clear hv
            go_wp2
            go_roundg (ks.length-1)
            case measure=>omega
            case rel=>exact ⟨2,hlt,by omega,by go_num,rfl,zes HALL.out HF.out⟩
          · have hv2:(a1 != s1)=true:=by simp [hv]
            have HF:=Hi (HN.out.trans (if_neg (ze0 hacc (by rw [E1.out];exact hv))))
            clear hv
            go_wp2
            refine bodyPost_ret (v := .tuple #[.int .i64 0,.int .i64 10]) (by simp [results,Tryz.results49,go_sem]) rfl ⟨?_,HBW.out⟩
            rw [HE.out,HF.out]
        by_cases hk2:k=2
        · subst hk2
          by_cases hv:a2=s1
          · have hv2:(a2 != s1)=false:=by simp [hv]
            have HF:=Hi (E2.out.trans hv)
            clear hv
            go_wp2
            go_roundg (ks.length-2)
            case measure=>omega
            case rel=>exact ⟨3,hlt,by omega,by go_num,rfl,zes HALL.out HF.out⟩
          · have hv2:(a2 != s1)=true:=by simp [hv]
            have HF:=Hi (HN.out.trans (if_neg (ze0 hacc (by rw [E2.out];exact hv))))
            clear hv
            go_wp2
            refine bodyPost_ret (v := .tuple #[.int .i64 0,.int .i64 10]) (by simp [results,Tryz.results49,go_sem]) rfl ⟨?_,HBW.out⟩
            rw [HE.out,HF.out]
        omega
end Go.Proofs.YtcikenlflcofbaaGreatDoor
