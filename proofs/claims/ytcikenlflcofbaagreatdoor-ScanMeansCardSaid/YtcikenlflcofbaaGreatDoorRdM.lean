/-
  The reader's primary.
-/
import Derived.Test.YtcikenlflcofbaaGreatDoorRdK
set_option maxRecDepth 100000
set_option maxHeartbeats 8000000
namespace Go.Proofs.YtcikenlflcofbaaGreatDoor
open Go.RowKit
structure PrM (rb:Nat) (A:Option Addr) (c:Nat) (t:List UInt8) (l:List Tok) (w0:World) (k:Tok) (s:RSt) (wr:World):Prop where
  res:ZB wr w0.heap.size
  tok:wr.heap[w0.heap.size+1]? = some (.cells #[.int .i64 k.kind,.string ⟨k.text.toArray⟩,.int .i64 k.pos] 99 (0,0))
  start:∃ s0,RS rb A c t l s0 w0
  left:LeftR rb A c l s w0 wr
  le:s.i≤l.length
section
variable {rb : Nat} {A : Option Addr} {c : Nat} {t : List UInt8} {l : List Tok} {w0 : World} {k : Tok} {s s' : RSt} {wr wr' : World}
theorem PrM.rs (h:PrM rb A c t l w0 k s wr):RS rb A c t l s wr:=by
  obtain ⟨s0,h0⟩:=h.start;exact h0.left h.left h.le
theorem PrM.rlt (h:PrM rb A c t l w0 k s wr):rb<w0.heap.size:=by
  obtain ⟨s0,h0⟩:=h.start;exact h0.ltp
theorem PrM.lt (h:PrM rb A c t l w0 k s wr):w0.heap.size+1<wr.heap.size:=(Array.getElem?_eq_some_iff.1 h.tok).1
theorem PrM.cells (h:PrM rb A c t l w0 k s wr):wr.cell? ⟨w0.heap.size+1,0,none⟩=some (.int .i64 k.kind)∧wr.cell? ⟨w0.heap.size+1,1,none⟩=some (.string ⟨k.text.toArray⟩):=by
  have hh:=h.tok;exact ⟨by simp [World.cell?,hh],by simp [World.cell?,hh]⟩
theorem PrM.step (h:PrM rb A c t l w0 k s wr) (q:LeftR rb A c l s' wr wr') (hs:s'.i≤l.length):PrM rb A c t l w0 k s' wr':=by
  have hr:=h.rlt;exact ⟨h.res.leftR q (by omega),(q.1.block _ h.lt (fun e=>by injection e;omega)).trans h.tok,h.start,h.left.trans q,hs⟩
theorem PrM.below (h:PrM rb A c t l w0 k s wr) (q:Below wr.heap.size wr wr'):PrM rb A c t l w0 k s wr':=h.step ((LeftR.refl h.rs).below q) h.le
theorem PrM.drew (h:PrM rb A c t l w0 k s wr):PrM rb A c t l w0 k s wr.drew:=h.below (zad (Below.refl _ _))
end
theorem prim_r {rb:Nat} {A:Option Addr} {c:Nat} {t:List UInt8} {l:List Tok} {e:RSt→Option (Ex × RSt)} (hP:zdX rb A c t l 43 e):zdX rb A c t l 85 (zji l e):=by
  intro s w y s' hs hr;have hb0:=zaa w (Obj.cells #[.int .i64 0,.int .i64 0,.string ⟨#[]⟩,.slice Option.none 0 0] 48);have hZ:=ZB.new w;have hrl:=hs.ltp;have hs1:=hs.below hb0;obtain ⟨p0,p1,p2,p3,f1,f2,f3⟩:=hs.cells;have hlen:l.length≤120:=Nat.le_trans hs.len hs.short;have HK:=Hi (call_r hP);have HP:=Hi hP;have HS:=Hi hs;have HS1:=Hi hs1;have HZ:=Hi hZ;have HB0:=Hi hb0;obtain ⟨i,bad,la⟩:=s;dsimp only at p0 p1 p2 p3;clear hP hs hs1 hZ hb0;unfold zji at hr
  by_cases hbad:bad=true∨l.length≤i
  · rw [if_pos hbad] at hr
    obtain ⟨rfl,rfl⟩:Ex.zero=y∧zdJ ⟨i,bad,la⟩=s':=by injection hr with hr;injection hr with a b;exact ⟨a,b⟩
    have HL:=Hi (((LeftR.refl HS.out).fail.alloc (Obj.cells #[.int .i64 0,.int .i64 0,.string ⟨#[]⟩,.slice Option.none 0 0] 48)).drew)
    have hZd:=ZB.new (w.setCell ⟨rb,2,none⟩ (.bool true))
    rw [World.size_setCell] at hZd
    have HZd:=Hi (hZd.below (zad (Below.refl _ _)))
    clear hZd
    have hle:=HS.out.le
    have hcs:bad=true∨bad=false∧decide (l.length≤i)=true:=by
      rcases hbad with q | q
      · exact .inl q
      · cases bad
        · exact .inr ⟨rfl,by simpa using q⟩
        · exact .inl rfl
    clear hbad hr HK HP
    rcases hcs with rfl | ⟨rfl,dq⟩
    all_goals
      go_enter Tryz.func85,Tryz.ntmps85
      go_wp2
      go_region
      go_upto_region 3 with fail
      obtain ⟨W6,hW6⟩:∃ W,((w.setCell ⟨rb,2,none⟩ (.bool true)).alloc (Obj.cells #[.int .i64 0,.int .i64 0,.string ⟨#[]⟩,.slice Option.none 0 0] 48)).drew=W:=⟨_,rfl⟩
      rw [hW6] at HL HZd ⊢
      clear hW6 p0 p1 p2 p3 f1 f2 f3
      obtain ⟨q0,q1,q2,q3,z0,z1,z2,z3⟩:=XV.cells HZd.out
      have hz:=XV.lt HZd.out
      have HPT:=Hi (zak HZd.out 0 0 [] Option.none 0 0)
      go_wp2
      change bodyPost _ _ _ _ _ (set4 W6 w.heap.size (.int .i64 0) (.int .i64 0) (.string ⟨([]:List UInt8).toArray⟩) (.slice Option.none 0 0))
      obtain ⟨r0,r1,r2,r3,-,-,-,-⟩:=HPT.out.cells
      refine bodyPost_ret (v:=exV 0 0 [] Option.none 0 0) (by simp [results,Tryz.results85,go_sem,exV,r0,r1,r2,r3]) rfl ?_
      exact RetXR.put (S:=fun _=>False) (ks:=[]) (Nat.le_refl _) (by unfold maxLen;decide) ⟨by decide,by decide,by simp⟩ Rw.nil (fun _ q=>q.elim) HL.out hle hrl
  rw [if_neg hbad] at hr;have hi:i<l.length:=Nat.lt_of_not_le fun q=>hbad (.inr q)
  obtain rfl:bad=false:=by cases bad;rfl;exact absurd (.inl rfl) hbad
  have dq:decide (l.length≤i)=false:=by simp;omega
  obtain ⟨b,o,hA,hb1,hne,⟨t0,t1,t2⟩,htw⟩:=HS.out.tok hi;subst hA;dsimp only at hr t0 t1 t2 htw;have hin:=fun v=>zkT (la:=la) (v:=v) hi
  generalize tk l i=k at *;have HTW:=Hi htw;have HIN:=Hi hin;have HR:=Hi hr
  have hM:PrM rb (some ⟨b,o,none⟩) c t l w k ⟨i,false,la⟩ ((w.alloc (Obj.cells #[.int .i64 0,.int .i64 0,.string ⟨#[]⟩,.slice Option.none 0 0] 48)).alloc (Obj.cells #[.int .i64 k.kind,.string ⟨k.text.toArray⟩,.int .i64 k.pos] 99)).drew.drew:=by
    have h1:=zaa (w.alloc (Obj.cells #[.int .i64 0,.int .i64 0,.string ⟨#[]⟩,.slice Option.none 0 0] 48)) (Obj.cells #[.int .i64 k.kind,.string ⟨k.text.toArray⟩,.int .i64 k.pos] 99);have h2:=heap_alloc_new (w.alloc (Obj.cells #[.int .i64 0,.int .i64 0,.string ⟨#[]⟩,.slice Option.none 0 0] 48)) (Obj.cells #[.int .i64 k.kind,.string ⟨k.text.toArray⟩,.int .i64 k.pos] 99);rw [World.size_alloc] at h2
    have h3:PrM rb (some ⟨b,o,none⟩) c t l w k ⟨i,false,la⟩ ((w.alloc (Obj.cells #[.int .i64 0,.int .i64 0,.string ⟨#[]⟩,.slice Option.none 0 0] 48)).alloc (Obj.cells #[.int .i64 k.kind,.string ⟨k.text.toArray⟩,.int .i64 k.pos] 99)):=
      ⟨HZ.out.below h1,h2,⟨_,HS.out⟩,((LeftR.refl HS.out).below HB0.out).below h1,HS.out.le⟩
    exact h3.drew.drew
  have HM:=Hi hM;clear hM htw hin hr hbad;go_enter Tryz.func85,Tryz.ntmps85;go_wp2;go_region
  go_wp2;go_region
  go_upto_region 5 with fail
  obtain ⟨W1,hW1⟩:∃ W,((w.alloc (Obj.cells #[.int .i64 0,.int .i64 0,.string ⟨#[]⟩,.slice Option.none 0 0] 48)).alloc (Obj.cells #[.int .i64 k.kind,.string ⟨k.text.toArray⟩,.int .i64 k.pos] 99)).drew.drew=W:=⟨_,rfl⟩;rw [hW1] at HM ⊢;clear hW1 p0 p1 p2 p3 f1 f2 f3 t0 t1 t2;have hlt1:=HM.out.lt;obtain ⟨k0,k1⟩:=HM.out.cells
  by_cases h2:k.kind=2
  · have kq:(k.kind == 2)=true:=by simp [h2]
    have HCV:=Hi (fun W=>zdm k.text (HTW.out.num h2).1 (HTW.out.num h2).2.2.2.2 W)
    obtain ⟨v,hv⟩:∃ v:Int,((decV k.text:Nat):Int)=v:=⟨_,rfl⟩
    have hvr:0≤v∧v≤32767:=by
      have:=(HTW.out.num h2).2.1
      have:=(HTW.out.num h2).2.2.1
      omega
    have hr:=HR.out
    rw [if_pos h2,hv] at hr
    rw [hv] at HCV
    have HWN:=Hi (show (Lit.int .i64 v).wf=true from wf64 (by omega) (by omega))
    obtain ⟨rfl,rfl⟩:Ex.mk 2 v [] []=y∧zbO ⟨i,false,la⟩=s':=by injection hr with hr;injection hr with a b;exact ⟨a,b⟩
    clear hr HR h2 hv HK HP
    obtain ⟨p0,p1,p2,p3,f1,f2,f3⟩:=HM.out.rs.cells
    have hplq:=HM.out.rs.ltp
    dsimp only at p0 p1 p2 p3
    go_upto_region 7 with fail
    obtain ⟨W2,hW2⟩:∃ V,W1.setCell ⟨rb,1,none⟩ (.int .i64 ((i:Int)+1))=V:=⟨_,rfl⟩
    have hM2:=HM.out.step (LeftR.refl HM.out.rs).place (show i+1≤l.length from hi)
    dsimp only at hM2
    rw [hW2] at hM2 ⊢
    have HM2:=Hi hM2
    clear hW2 hM2 p0 p1 p2 p3 f1 f2 f3 hplq k0 k1
    obtain ⟨k0,k1⟩:=HM2.out.cells
    have hlt2:=HM2.out.lt
    go_wp2_with fail
    refine (HCV.out _).mono ?_
    rintro e' w7 ⟨rfl,rfl⟩
    obtain ⟨q0,q1,q2,q3,z0,z1,z2,z3⟩:=XV.cells HM2.out.res
    have hz:=XV.lt HM2.out.res
    have HPT:=Hi (zak HM2.out.res 2 v [] Option.none 0 0)
    go_wp2
    change bodyPost _ _ _ _ _ (set4 W2 w.heap.size (.int .i64 2) (.int .i64 v) (.string ⟨([]:List UInt8).toArray⟩) (.slice Option.none 0 0))
    obtain ⟨r0,r1,r2,r3,-,-,-,-⟩:=HPT.out.cells
    refine bodyPost_ret (v:=exV 2 v [] Option.none 0 0) (by simp [results,Tryz.results85,go_sem,exV,r0,r1,r2,r3]) rfl ?_
    exact RetXR.put (S:=fun _=>False) (ks:=[]) (Nat.le_refl _) (by unfold maxLen;decide) ⟨by decide,HWN.out,by simp⟩ Rw.nil (fun _ q=>q.elim) HM2.out.left HM2.out.le hrl
  have kq:(k.kind == 2)=false:=by simp [h2]
  have hk2t:decide (k.kind≠2)=true:=by simp [h2]
  have hr:=HR.out;rw [if_neg h2] at hr;have HR:=Hi hr;clear hr;have HCE:=Hi (zcQ [116, 114, 117, 101] HM.out.rs);have hle:=HM.out.le;have hqq:=HIN.out [116, 114, 117, 101];rw [hk2t,Bool.true_and] at hqq
  cases hq:(k.text == [116, 114, 117, 101]) with
  | true =>
    rw [hq] at hqq;rw [hqq,if_pos rfl] at HCE;have hr:=HR.out;rw [if_pos hqq] at hr;obtain ⟨rfl,rfl⟩:Ex.mk 1 1 [] []=y∧zbO ⟨i,false,la⟩=s':=by injection hr with hr;injection hr with a b;exact ⟨a,b⟩
    clear hr HR HK HP hqq hq;go_wp2_with fail
    refine HCE.out.mono ?_
    rintro e' w3 ⟨rfl,hl3⟩
    have HM2:=Hi (HM.out.step hl3 (show i+1≤l.length from hi));clear hl3 HCE k0 k1;obtain ⟨q0,q1,q2,q3,z0,z1,z2,z3⟩:=XV.cells HM2.out.res;have hz:=XV.lt HM2.out.res;have HPT:=Hi (zak HM2.out.res 1 1 [] Option.none 0 0);go_wp2
    change bodyPost _ _ _ _ _ (set4 w3 w.heap.size (.int .i64 1) (.int .i64 1) (.string ⟨([]:List UInt8).toArray⟩) (.slice Option.none 0 0))
    obtain ⟨r0,r1,r2,r3,-,-,-,-⟩:=HPT.out.cells;refine bodyPost_ret (v:=exV 1 1 [] Option.none 0 0) (by simp [results,Tryz.results85,go_sem,exV,r0,r1,r2,r3]) rfl ?_
    exact RetXR.put (S:=fun _=>False) (ks:=[]) (Nat.le_refl _) (by unfold maxLen;decide) ⟨by decide,by decide,by simp⟩ Rw.nil (fun _ q=>q.elim) HM2.out.left HM2.out.le hrl
  | false =>
  rw [hq] at hqq;rw [hqq,if_neg Bool.false_ne_true] at HCE;have HQa:=Hi hqq;clear hqq;go_wp2_with fail
  refine HCE.out.mono ?_
  rintro e' wa ⟨rfl,hl3⟩
  have HMa:=Hi (HM.out.step hl3 hle);clear hl3 HCE k0 k1;obtain ⟨k0,k1⟩:=HMa.out.cells;have hlta:=HMa.out.lt;have HCE:=Hi (zcQ [102, 97, 108, 115, 101] HMa.out.rs);have hle:=HMa.out.le;have hqq:=HIN.out [102, 97, 108, 115, 101];rw [hk2t,Bool.true_and] at hqq
  cases hq:(k.text == [102, 97, 108, 115, 101]) with
  | true =>
    rw [hq] at hqq;rw [hqq,if_pos rfl] at HCE;have hr:=HR.out;rw [if_neg (by rw [HQa.out];exact Bool.false_ne_true),if_pos hqq] at hr;obtain ⟨rfl,rfl⟩:Ex.mk 1 0 [] []=y∧zbO ⟨i,false,la⟩=s':=by injection hr with hr;injection hr with a b;exact ⟨a,b⟩
    clear hr HR HK HP hqq hq;go_wp2_with fail
    refine HCE.out.mono ?_
    rintro e' w3 ⟨rfl,hl3⟩
    have HM2:=Hi (HMa.out.step hl3 (show i+1≤l.length from hi));clear hl3 HCE k0 k1;obtain ⟨q0,q1,q2,q3,z0,z1,z2,z3⟩:=XV.cells HM2.out.res;have hz:=XV.lt HM2.out.res;have HPT:=Hi (zak HM2.out.res 1 0 [] Option.none 0 0);go_wp2
    change bodyPost _ _ _ _ _ (set4 w3 w.heap.size (.int .i64 1) (.int .i64 0) (.string ⟨([]:List UInt8).toArray⟩) (.slice Option.none 0 0))
    obtain ⟨r0,r1,r2,r3,-,-,-,-⟩:=HPT.out.cells;refine bodyPost_ret (v:=exV 1 0 [] Option.none 0 0) (by simp [results,Tryz.results85,go_sem,exV,r0,r1,r2,r3]) rfl ?_
    exact RetXR.put (S:=fun _=>False) (ks:=[]) (Nat.le_refl _) (by unfold maxLen;decide) ⟨by decide,by decide,by simp⟩ Rw.nil (fun _ q=>q.elim) HM2.out.left HM2.out.le hrl
  | false =>
  rw [hq] at hqq;rw [hqq,if_neg Bool.false_ne_true] at HCE;have HQb:=Hi hqq;clear hqq;go_wp2_with fail
  refine HCE.out.mono ?_
  rintro e' wb ⟨rfl,hl3⟩
  have HMb:=Hi (HMa.out.step hl3 hle);clear hl3 HCE k0 k1;obtain ⟨k0,k1⟩:=HMb.out.cells;have hltb:=HMb.out.lt;have HCE:=Hi (zcQ [40] HMb.out.rs)
  have hle:=HMb.out.le;have hqq:=HIN.out [40]
  rw [hk2t,Bool.true_and] at hqq
  cases hq:(k.text == [40]) with
  | true =>
    rw [hq] at hqq;rw [hqq,if_pos rfl] at HCE;have hr:=HR.out;rw [if_neg (by rw [HQa.out];exact Bool.false_ne_true),if_neg (by rw [HQb.out];exact Bool.false_ne_true),if_pos hqq] at hr;obtain ⟨x,s2,h1,h3⟩:=zbk hr;obtain ⟨rfl,rfl⟩:x=y∧zb2 l [41] s2=s':=by injection h3 with h3;injection h3 with a b;exact ⟨a,b⟩
    have H1:=Hi h1;clear hr HR HK hqq hq h1 h3;go_wp2_with fail
    refine HCE.out.mono ?_
    rintro e' w3 ⟨rfl,hl3⟩
    have HM2:=Hi (HMb.out.step hl3 (show i+1≤l.length from hi));clear hl3 HCE k0 k1;go_wp2_with fail
    refine (HP.out _ _ _ _ HM2.out.rs H1.out).mono ?_
    rintro e' w4 ⟨op,n,nm,A1,c1,ks,rfl,rfl,hc1,hm1,hp1,hr1,hl1,hi1⟩
    unfold exV;have hM4:=HM2.out.step hl1 hi1;have hbx:=zaa w4 (Obj.cells #[.int .i64 op,.int .i64 n,.string ⟨nm.toArray⟩,.slice A1 ks.length c1] 48);have hX:=XV.new w4 op n nm A1 ks.length c1;have hM5:=hM4.below hbx;have HC5:=Hi (zbE [41] hM5.rs)
    have hle5:=zcu (v := [41]) hM5.le
    have HM5:=Hi hM5;have HX:=Hi hX;have HR1:=Hi hr1;have hs4:=hl1.1.size;have hs3:=HM2.out.lt;clear hl1 hr1 hM4 hM5 hbx hX;go_wp2_with fail
    refine HC5.out.mono ?_
    rintro e' w5 ⟨rfl,hl5⟩
    have hM6:=HM5.out.step hl5 hle5;have hX6:=HX.out.grown hl5.1 (by intro q;injection q;omega);have HK5:=Hi ((zab (S:=fun b=>b<w4.heap.size) (zaa w4 (Obj.cells #[.int .i64 op,.int .i64 n,.string ⟨nm.toArray⟩,.slice A1 ks.length c1] 48)) fun b hb=>hb).mono (S:=fun b=>w.heap.size≤b∧b<w4.heap.size) fun b hb=>hb.2);have HK6:=Hi (zah (S:=fun b=>w.heap.size≤b∧b<w4.heap.size) hl5.1 fun b hb=>⟨by rw [World.size_alloc];omega,fun q=>by have:=hb.1;injection q;omega⟩);have hs5:=hl5.1.size;rw [World.size_alloc] at hs5;obtain ⟨x0,x1,x2,x3,-,-,-,-⟩:=hX6.cells;have hxl:=hX6.lt;have HM6:=Hi hM6;clear hl5 hM6 hX6 HC5 HM5 HX HM2;obtain ⟨q0,q1,q2,q3,z0,z1,z2,z3⟩:=XV.cells HM6.out.res;have hz:=XV.lt HM6.out.res;have HPT:=Hi (zak HM6.out.res op n nm A1 ks.length c1);go_wp2
    change bodyPost _ _ _ _ _ (set4 w5 w.heap.size (.int .i64 op) (.int .i64 n) (.string ⟨nm.toArray⟩) (.slice A1 ks.length c1))
    obtain ⟨r0,r1,r2,r3,-,-,-,-⟩:=HPT.out.cells;refine bodyPost_ret (v:=exV op n nm A1 ks.length c1) (by simp [results,Tryz.results85,go_sem,exV,r0,r1,r2,r3]) rfl ?_
    refine RetXR.put (S:=fun b=>w.heap.size<b∧b<w5.heap.size) hc1 hm1 hp1 (HR1.out.mono ExV.mono (fun b hb => ?_) ((HK5.out.mono fun b hb => ?_).trans (HK6.out.mono fun b hb => ?_))) (fun b hb=>hb) HM6.out.left HM6.out.le hrl
    · have:=hb.1
      have:=hb.2
      exact ⟨by omega,by omega⟩
    · have:=hb.1
      exact ⟨by omega,hb.2⟩
    · have:=hb.1
      exact ⟨by omega,hb.2⟩
  | false =>
  rw [hq] at hqq;rw [hqq,if_neg Bool.false_ne_true] at HCE;have HQc:=Hi hqq;clear hqq;go_wp2_with fail
  refine HCE.out.mono ?_
  rintro e' wc ⟨rfl,hl3⟩
  have HMc:=Hi (HMb.out.step hl3 hle);clear hl3 HCE k0 k1;obtain ⟨k0,k1⟩:=HMc.out.cells;have hltc:=HMc.out.lt;have hr:=HR.out;rw [if_neg (by rw [HQa.out];exact Bool.false_ne_true),if_neg (by rw [HQb.out];exact Bool.false_ne_true),if_neg (by rw [HQc.out];exact Bool.false_ne_true)] at hr;clear HR HP HQa HQb HQc hk2t HMa HMb HM
  by_cases h1:k.kind=1
  case neg =>
    have kq1:(k.kind == 1)=false:=by simp [h1]
    rw [if_neg (fun q=>h1 q.1),if_neg (fun q=>h1 q.1)] at hr;obtain ⟨rfl,rfl⟩:Ex.zero=y∧zdJ ⟨i,false,la⟩=s':=by injection hr with hr;injection hr with a b;exact ⟨a,b⟩
    clear hr HK h1;obtain ⟨p0,p1,p2,p3,f1,f2,f3⟩:=HMc.out.rs.cells;have hplq:=HMc.out.rs.ltp;dsimp only at p0 p1 p2 p3;go_upto_region 23 with fail
    obtain ⟨W2,hW2⟩:∃ V,wc.setCell ⟨rb,2,none⟩ (.bool true)=V:=⟨_,rfl⟩;have hM2:=HMc.out.step (LeftR.refl HMc.out.rs).fail (Nat.le_of_lt hi);rw [hW2] at hM2 ⊢;have HM2:=Hi hM2;clear hW2 hM2 p0 p1 p2 p3 f1 f2 f3 hplq k0 k1;obtain ⟨q0,q1,q2,q3,z0,z1,z2,z3⟩:=XV.cells HM2.out.res;have hz:=XV.lt HM2.out.res;have HPT:=Hi (zak HM2.out.res 0 0 [] Option.none 0 0);go_wp2
    change bodyPost _ _ _ _ _ (set4 W2 w.heap.size (.int .i64 0) (.int .i64 0) (.string ⟨([]:List UInt8).toArray⟩) (.slice Option.none 0 0))
    obtain ⟨r0,r1,r2,r3,-,-,-,-⟩:=HPT.out.cells;refine bodyPost_ret (v:=exV 0 0 [] Option.none 0 0) (by simp [results,Tryz.results85,go_sem,exV,r0,r1,r2,r3]) rfl ?_
    exact RetXR.put (S:=fun _=>False) (ks:=[]) (Nat.le_refl _) (by unfold maxLen;decide) ⟨by decide,by decide,by simp⟩ Rw.nil (fun _ q=>q.elim) HM2.out.left HM2.out.le hrl
  have kq1:(k.kind == 1)=true:=by simp [h1]
  have hlen2:=(HTW.out.word h1).1;have HRV:=Hi (fun W=>zcg k.text W);have HCW:=Hi (fun W=>zhX k.text W)
  cases hrs:zaC k.text with
  | false =>
    rw [hrs] at HRV;rw [if_pos ⟨h1,hrs⟩] at hr;obtain ⟨rfl,rfl⟩:Ex.mk 3 0 k.text []=y∧zbO ⟨i,false,la⟩=s':=by injection hr with hr;injection hr with a b;exact ⟨a,b⟩
    have HTL:=Hi (show k.text.length≤maxLen by unfold maxLen;omega);clear hr HK hrs HCW;go_wp2_with fail
    refine (HRV.out _).mono ?_
    rintro e' wd ⟨rfl,hb9⟩
    have HMd:=Hi (HMc.out.below hb9);clear hb9 k0 k1 HMc;obtain ⟨k0,k1⟩:=HMd.out.cells;have hltd:=HMd.out.lt;obtain ⟨p0,p1,p2,p3,f1,f2,f3⟩:=HMd.out.rs.cells;have hplq:=HMd.out.rs.ltp;dsimp only at p0 p1 p2 p3;go_upto_region 18 with fail
    obtain ⟨W2,hW2⟩:∃ V,wd.setCell ⟨rb,1,none⟩ (.int .i64 ((i:Int)+1))=V:=⟨_,rfl⟩;have hM2:=HMd.out.step (LeftR.refl HMd.out.rs).place (show i+1≤l.length from hi);dsimp only at hM2;rw [hW2] at hM2 ⊢;have HM2:=Hi hM2;clear hW2 hM2 p0 p1 p2 p3 f1 f2 f3 hplq k0 k1;obtain ⟨k0,k1⟩:=HM2.out.cells;have hlt2:=HM2.out.lt;obtain ⟨q0,q1,q2,q3,z0,z1,z2,z3⟩:=XV.cells HM2.out.res;have hz:=XV.lt HM2.out.res;have HPT:=Hi (zak HM2.out.res 3 0 k.text Option.none 0 0);go_wp2
    change bodyPost _ _ _ _ _ (set4 W2 w.heap.size (.int .i64 3) (.int .i64 0) (.string ⟨(k.text:List UInt8).toArray⟩) (.slice Option.none 0 0))
    obtain ⟨r0,r1,r2,r3,-,-,-,-⟩:=HPT.out.cells;refine bodyPost_ret (v:=exV 3 0 k.text Option.none 0 0) (by simp [results,Tryz.results85,go_sem,exV,r0,r1,r2,r3]) rfl ?_
    exact RetXR.put (S:=fun _=>False) (ks:=[]) (Nat.le_refl _) (by unfold maxLen;decide) ⟨by decide,by decide,HTL.out⟩ Rw.nil (fun _ q=>q.elim) HM2.out.left HM2.out.le hrl
  | true =>
  rw [hrs] at HRV;have hw:=zhW hrs;rw [if_neg (fun q=>by rw [hrs] at q;cases q.2)] at hr;clear hrs
  rcases hw with ⟨hcw,hop,har,ho1,ho2⟩ | ⟨hcw,hno⟩
  · rw [if_pos ⟨h1,hcw⟩,← hop] at hr
    rw [← hop] at har ho1 ho2
    have HR:=Hi hr
    have HAR:=Hi (fun W=>zb5 (zbN k.text) W)
    clear hr hop hcw
    generalize zbN k.text=cop at *
    generalize zav cop=ar at *
    have n4:(cop != 4)=true:=by simp;omega
    have n5:(cop != 5)=true:=by simp;omega
    have n6:(cop != 6)=true:=by simp;omega
    have n7:(cop != 7)=true:=by simp;omega
    go_wp2_with fail
    refine (HRV.out _).mono ?_
    rintro e' wd ⟨rfl,hb9⟩
    have HMd:=Hi (HMc.out.below hb9)
    clear hb9 k0 k1 HMc
    obtain ⟨k0,k1⟩:=HMd.out.cells
    have hltd:=HMd.out.lt
    go_wp2_with fail
    refine (HCW.out _).mono ?_
    rintro e' wX1 ⟨rfl,hb9⟩
    have HMX1:=Hi (HMd.out.below hb9)
    clear hb9 k0 k1 HMd
    obtain ⟨k0,k1⟩:=HMX1.out.cells
    have hltX1:=HMX1.out.lt
    go_wp2_with fail
    refine (HAR.out _).mono ?_
    rintro e' wY ⟨rfl,rfl⟩
    go_wp2_with fail
    refine (HCW.out _).mono ?_
    rintro e' wX2 ⟨rfl,hb9⟩
    have HMX2:=Hi (HMX1.out.below hb9)
    clear hb9 k0 k1 HMX1
    obtain ⟨k0,k1⟩:=HMX2.out.cells
    have hltX2:=HMX2.out.lt
    go_wp2_with fail
    refine (HCW.out _).mono ?_
    rintro e' wX3 ⟨rfl,hb9⟩
    have HMX3:=Hi (HMX2.out.below hb9)
    clear hb9 k0 k1 HMX2
    obtain ⟨k0,k1⟩:=HMX3.out.cells
    have hltX3:=HMX3.out.lt
    go_wp2_with fail
    refine (HCW.out _).mono ?_
    rintro e' wX4 ⟨rfl,hb9⟩
    have HMX4:=Hi (HMX3.out.below hb9)
    clear hb9 k0 k1 HMX3
    obtain ⟨k0,k1⟩:=HMX4.out.cells
    have hltX4:=HMX4.out.lt
    go_wp2_with fail
    refine (HCW.out _).mono ?_
    rintro e' wX5 ⟨rfl,hb9⟩
    have HMX5:=Hi (HMX4.out.below hb9)
    clear hb9 k0 k1 HMX4
    obtain ⟨k0,k1⟩:=HMX5.out.cells
    have hltX5:=HMX5.out.lt
    obtain ⟨p0,p1,p2,p3,f1,f2,f3⟩:=HMX5.out.rs.cells
    have hplq:=HMX5.out.rs.ltp
    dsimp only at p0 p1 p2 p3
    go_upto_region 21 with fail
    obtain ⟨W2,hW2⟩:∃ V,wX5.setCell ⟨rb,1,none⟩ (.int .i64 ((i:Int)+1))=V:=⟨_,rfl⟩
    have hM2:=HMX5.out.step (LeftR.refl HMX5.out.rs).place (show i+1≤l.length from hi)
    dsimp only at hM2
    rw [hW2] at hM2 ⊢
    have HM2:=Hi hM2
    clear hW2 hM2 p0 p1 p2 p3 f1 f2 f3 hplq k0 k1
    obtain ⟨k0,k1⟩:=HM2.out.cells
    have hlt2:=HM2.out.lt
    go_wp2_with fail
    refine (HCW.out _).mono ?_
    rintro e' wz ⟨rfl,hb9⟩
    have HMz:=Hi (HM2.out.below hb9)
    have HCK:=Hi (HK.out cop _ _ _ _ ho1 ho2 HMz.out.rs HR.out)
    have hszz:=HMz.out.left.1.size
    clear hb9 k0 k1 HM2
    go_wp2_with fail
    refine HCK.out.mono ?_
    rintro e' w4 ⟨op,n,nm,A1,c1,ks,rfl,rfl,hc1,hm1,hp1,hr1,hl1,hi1⟩
    unfold exV
    have hM4:=HMz.out.step hl1 hi1
    have HR1:=Hi hr1
    have HM4:=Hi hM4
    have hzz:=XV.lt HMz.out.res
    clear hl1 hr1 hM4
    obtain ⟨q0,q1,q2,q3,z0,z1,z2,z3⟩:=XV.cells HM4.out.res
    have hz:=XV.lt HM4.out.res
    have HPT:=Hi (zak HM4.out.res op n nm A1 ks.length c1)
    go_wp2
    change bodyPost _ _ _ _ _ (set4 w4 w.heap.size (.int .i64 op) (.int .i64 n) (.string ⟨nm.toArray⟩) (.slice A1 ks.length c1))
    obtain ⟨r0,r1,r2,r3,-,-,-,-⟩:=HPT.out.cells
    refine bodyPost_ret (v:=exV op n nm A1 ks.length c1) (by simp [results,Tryz.results85,go_sem,exV,r0,r1,r2,r3]) rfl ?_
    exact RetXR.put hc1 hm1 hp1 HR1.out (fun b hb=>⟨Nat.lt_of_lt_of_le hzz hb.1,hb.2⟩) HM4.out.left HM4.out.le hrl
  · rw [if_neg (fun q=>by rw [hcw] at q;cases q.2)] at hr
    obtain ⟨rfl,rfl⟩:Ex.zero=y∧zdJ ⟨i,false,la⟩=s':=by injection hr with hr;injection hr with a b;exact ⟨a,b⟩
    have HAR:=Hi (fun W=>zb5 (zbN k.text) W)
    clear hr hcw HK
    generalize zbN k.text=cop at *
    have hno2:¬ 0<zav cop∨cop=4∨cop=5∨cop=6∨cop=7:=by
      rcases hno with q | q
      · exact .inl (by omega)
      · exact .inr q
    clear hno
    go_wp2_with fail
    refine (HRV.out _).mono ?_
    rintro e' wd ⟨rfl,hb9⟩
    have HMd:=Hi (HMc.out.below hb9)
    clear hb9 k0 k1 HMc
    obtain ⟨k0,k1⟩:=HMd.out.cells
    have hltd:=HMd.out.lt
    go_wp2_with fail
    refine (HCW.out _).mono ?_
    rintro e' wX1 ⟨rfl,hb9⟩
    have HMX1:=Hi (HMd.out.below hb9)
    clear hb9 k0 k1 HMd
    obtain ⟨k0,k1⟩:=HMX1.out.cells
    have hltX1:=HMX1.out.lt
    go_wp2_with fail
    refine (HAR.out _).mono ?_
    rintro e' wY ⟨rfl,rfl⟩
    rcases hno2 with ar0 | rfl | rfl | rfl | rfl
    · generalize zav cop=ar at *
      obtain ⟨p0,p1,p2,p3,f1,f2,f3⟩:=HMX1.out.rs.cells
      have hplq:=HMX1.out.rs.ltp
      dsimp only at p0 p1 p2 p3
      go_upto_region 23 with fail
      obtain ⟨W2,hW2⟩:∃ V,wX1.setCell ⟨rb,2,none⟩ (.bool true)=V:=⟨_,rfl⟩
      have hM2:=HMX1.out.step (LeftR.refl HMX1.out.rs).fail (Nat.le_of_lt hi)
      rw [hW2] at hM2 ⊢
      have HM2:=Hi hM2
      clear hW2 hM2 p0 p1 p2 p3 f1 f2 f3 hplq k0 k1
      obtain ⟨q0,q1,q2,q3,z0,z1,z2,z3⟩:=XV.cells HM2.out.res
      have hz:=XV.lt HM2.out.res
      have HPT:=Hi (zak HM2.out.res 0 0 [] Option.none 0 0)
      go_wp2
      change bodyPost _ _ _ _ _ (set4 W2 w.heap.size (.int .i64 0) (.int .i64 0) (.string ⟨([]:List UInt8).toArray⟩) (.slice Option.none 0 0))
      obtain ⟨r0,r1,r2,r3,-,-,-,-⟩:=HPT.out.cells
      refine bodyPost_ret (v:=exV 0 0 [] Option.none 0 0) (by simp [results,Tryz.results85,go_sem,exV,r0,r1,r2,r3]) rfl ?_
      exact RetXR.put (S:=fun _=>False) (ks:=[]) (Nat.le_refl _) (by unfold maxLen;decide) ⟨by decide,by decide,by simp⟩ Rw.nil (fun _ q=>q.elim) HM2.out.left HM2.out.le hrl
    · have ar0:(0:Int)<zav 4:=by decide
      go_wp2_with fail
      refine (HCW.out _).mono ?_
      rintro e' wX2 ⟨rfl,hb9⟩
      have HMX2:=Hi (HMX1.out.below hb9)
      clear hb9 k0 k1 HMX1
      obtain ⟨k0,k1⟩:=HMX2.out.cells
      have hltX2:=HMX2.out.lt
      obtain ⟨p0,p1,p2,p3,f1,f2,f3⟩:=HMX2.out.rs.cells
      have hplq:=HMX2.out.rs.ltp
      dsimp only at p0 p1 p2 p3
      go_upto_region 23 with fail
      obtain ⟨W2,hW2⟩:∃ V,wX2.setCell ⟨rb,2,none⟩ (.bool true)=V:=⟨_,rfl⟩
      have hM2:=HMX2.out.step (LeftR.refl HMX2.out.rs).fail (Nat.le_of_lt hi)
      rw [hW2] at hM2 ⊢
      have HM2:=Hi hM2
      clear hW2 hM2 p0 p1 p2 p3 f1 f2 f3 hplq k0 k1
      obtain ⟨q0,q1,q2,q3,z0,z1,z2,z3⟩:=XV.cells HM2.out.res
      have hz:=XV.lt HM2.out.res
      have HPT:=Hi (zak HM2.out.res 0 0 [] Option.none 0 0)
      go_wp2
      change bodyPost _ _ _ _ _ (set4 W2 w.heap.size (.int .i64 0) (.int .i64 0) (.string ⟨([]:List UInt8).toArray⟩) (.slice Option.none 0 0))
      obtain ⟨r0,r1,r2,r3,-,-,-,-⟩:=HPT.out.cells
      refine bodyPost_ret (v:=exV 0 0 [] Option.none 0 0) (by simp [results,Tryz.results85,go_sem,exV,r0,r1,r2,r3]) rfl ?_
      exact RetXR.put (S:=fun _=>False) (ks:=[]) (Nat.le_refl _) (by unfold maxLen;decide) ⟨by decide,by decide,by simp⟩ Rw.nil (fun _ q=>q.elim) HM2.out.left HM2.out.le hrl
    · have ar0:(0:Int)<zav 5:=by decide
      go_wp2_with fail
      refine (HCW.out _).mono ?_
      rintro e' wX2 ⟨rfl,hb9⟩
      have HMX2:=Hi (HMX1.out.below hb9)
      clear hb9 k0 k1 HMX1
      obtain ⟨k0,k1⟩:=HMX2.out.cells
      have hltX2:=HMX2.out.lt
      go_wp2_with fail
      refine (HCW.out _).mono ?_
      rintro e' wX3 ⟨rfl,hb9⟩
      have HMX3:=Hi (HMX2.out.below hb9)
      clear hb9 k0 k1 HMX2
      obtain ⟨k0,k1⟩:=HMX3.out.cells
      have hltX3:=HMX3.out.lt
      obtain ⟨p0,p1,p2,p3,f1,f2,f3⟩:=HMX3.out.rs.cells
      have hplq:=HMX3.out.rs.ltp
      dsimp only at p0 p1 p2 p3
      go_upto_region 23 with fail
      obtain ⟨W2,hW2⟩:∃ V,wX3.setCell ⟨rb,2,none⟩ (.bool true)=V:=⟨_,rfl⟩
      have hM2:=HMX3.out.step (LeftR.refl HMX3.out.rs).fail (Nat.le_of_lt hi)
      rw [hW2] at hM2 ⊢
      have HM2:=Hi hM2
      clear hW2 hM2 p0 p1 p2 p3 f1 f2 f3 hplq k0 k1
      obtain ⟨q0,q1,q2,q3,z0,z1,z2,z3⟩:=XV.cells HM2.out.res
      have hz:=XV.lt HM2.out.res
      have HPT:=Hi (zak HM2.out.res 0 0 [] Option.none 0 0)
      go_wp2
      change bodyPost _ _ _ _ _ (set4 W2 w.heap.size (.int .i64 0) (.int .i64 0) (.string ⟨([]:List UInt8).toArray⟩) (.slice Option.none 0 0))
      obtain ⟨r0,r1,r2,r3,-,-,-,-⟩:=HPT.out.cells
      refine bodyPost_ret (v:=exV 0 0 [] Option.none 0 0) (by simp [results,Tryz.results85,go_sem,exV,r0,r1,r2,r3]) rfl ?_
      exact RetXR.put (S:=fun _=>False) (ks:=[]) (Nat.le_refl _) (by unfold maxLen;decide) ⟨by decide,by decide,by simp⟩ Rw.nil (fun _ q=>q.elim) HM2.out.left HM2.out.le hrl
    · have ar0:(0:Int)<zav 6:=by decide
      go_wp2_with fail
      refine (HCW.out _).mono ?_
      rintro e' wX2 ⟨rfl,hb9⟩
      have HMX2:=Hi (HMX1.out.below hb9)
      clear hb9 k0 k1 HMX1
      obtain ⟨k0,k1⟩:=HMX2.out.cells
      have hltX2:=HMX2.out.lt
      go_wp2_with fail
      refine (HCW.out _).mono ?_
      rintro e' wX3 ⟨rfl,hb9⟩
      have HMX3:=Hi (HMX2.out.below hb9)
      clear hb9 k0 k1 HMX2
      obtain ⟨k0,k1⟩:=HMX3.out.cells
      have hltX3:=HMX3.out.lt
      go_wp2_with fail
      refine (HCW.out _).mono ?_
      rintro e' wX4 ⟨rfl,hb9⟩
      have HMX4:=Hi (HMX3.out.below hb9)
      clear hb9 k0 k1 HMX3
      obtain ⟨k0,k1⟩:=HMX4.out.cells
      have hltX4:=HMX4.out.lt
      obtain ⟨p0,p1,p2,p3,f1,f2,f3⟩:=HMX4.out.rs.cells
      have hplq:=HMX4.out.rs.ltp
      dsimp only at p0 p1 p2 p3
      go_upto_region 23 with fail
      obtain ⟨W2,hW2⟩:∃ V,wX4.setCell ⟨rb,2,none⟩ (.bool true)=V:=⟨_,rfl⟩
      have hM2:=HMX4.out.step (LeftR.refl HMX4.out.rs).fail (Nat.le_of_lt hi)
      rw [hW2] at hM2 ⊢
      have HM2:=Hi hM2
      clear hW2 hM2 p0 p1 p2 p3 f1 f2 f3 hplq k0 k1
      obtain ⟨q0,q1,q2,q3,z0,z1,z2,z3⟩:=XV.cells HM2.out.res
      have hz:=XV.lt HM2.out.res
      have HPT:=Hi (zak HM2.out.res 0 0 [] Option.none 0 0)
      go_wp2
      change bodyPost _ _ _ _ _ (set4 W2 w.heap.size (.int .i64 0) (.int .i64 0) (.string ⟨([]:List UInt8).toArray⟩) (.slice Option.none 0 0))
      obtain ⟨r0,r1,r2,r3,-,-,-,-⟩:=HPT.out.cells
      refine bodyPost_ret (v:=exV 0 0 [] Option.none 0 0) (by simp [results,Tryz.results85,go_sem,exV,r0,r1,r2,r3]) rfl ?_
      exact RetXR.put (S:=fun _=>False) (ks:=[]) (Nat.le_refl _) (by unfold maxLen;decide) ⟨by decide,by decide,by simp⟩ Rw.nil (fun _ q=>q.elim) HM2.out.left HM2.out.le hrl
    · have ar0:(0:Int)<zav 7:=by decide
      go_wp2_with fail
      refine (HCW.out _).mono ?_
      rintro e' wX2 ⟨rfl,hb9⟩
      have HMX2:=Hi (HMX1.out.below hb9)
      clear hb9 k0 k1 HMX1
      obtain ⟨k0,k1⟩:=HMX2.out.cells
      have hltX2:=HMX2.out.lt
      go_wp2_with fail
      refine (HCW.out _).mono ?_
      rintro e' wX3 ⟨rfl,hb9⟩
      have HMX3:=Hi (HMX2.out.below hb9)
      clear hb9 k0 k1 HMX2
      obtain ⟨k0,k1⟩:=HMX3.out.cells
      have hltX3:=HMX3.out.lt
      go_wp2_with fail
      refine (HCW.out _).mono ?_
      rintro e' wX4 ⟨rfl,hb9⟩
      have HMX4:=Hi (HMX3.out.below hb9)
      clear hb9 k0 k1 HMX3
      obtain ⟨k0,k1⟩:=HMX4.out.cells
      have hltX4:=HMX4.out.lt
      go_wp2_with fail
      refine (HCW.out _).mono ?_
      rintro e' wX5 ⟨rfl,hb9⟩
      have HMX5:=Hi (HMX4.out.below hb9)
      clear hb9 k0 k1 HMX4
      obtain ⟨k0,k1⟩:=HMX5.out.cells
      have hltX5:=HMX5.out.lt
      obtain ⟨p0,p1,p2,p3,f1,f2,f3⟩:=HMX5.out.rs.cells
      have hplq:=HMX5.out.rs.ltp
      dsimp only at p0 p1 p2 p3
      go_upto_region 23 with fail
      obtain ⟨W2,hW2⟩:∃ V,wX5.setCell ⟨rb,2,none⟩ (.bool true)=V:=⟨_,rfl⟩
      have hM2:=HMX5.out.step (LeftR.refl HMX5.out.rs).fail (Nat.le_of_lt hi)
      rw [hW2] at hM2 ⊢
      have HM2:=Hi hM2
      clear hW2 hM2 p0 p1 p2 p3 f1 f2 f3 hplq k0 k1
      obtain ⟨q0,q1,q2,q3,z0,z1,z2,z3⟩:=XV.cells HM2.out.res
      have hz:=XV.lt HM2.out.res
      have HPT:=Hi (zak HM2.out.res 0 0 [] Option.none 0 0)
      go_wp2
      change bodyPost _ _ _ _ _ (set4 W2 w.heap.size (.int .i64 0) (.int .i64 0) (.string ⟨([]:List UInt8).toArray⟩) (.slice Option.none 0 0))
      obtain ⟨r0,r1,r2,r3,-,-,-,-⟩:=HPT.out.cells
      refine bodyPost_ret (v:=exV 0 0 [] Option.none 0 0) (by simp [results,Tryz.results85,go_sem,exV,r0,r1,r2,r3]) rfl ?_
      exact RetXR.put (S:=fun _=>False) (ks:=[]) (Nat.le_refl _) (by unfold maxLen;decide) ⟨by decide,by decide,by simp⟩ Rw.nil (fun _ q=>q.elim) HM2.out.left HM2.out.le hrl
end Go.Proofs.YtcikenlflcofbaaGreatDoor
