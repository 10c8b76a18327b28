/-
  The reader's level of not and the relations.
-/
import Derived.Test.YtcikenlflcofbaaGreatDoorRdL
set_option maxRecDepth 100000
set_option maxHeartbeats 8000000
namespace Go.Proofs.YtcikenlflcofbaaGreatDoor
open Go.RowKit
structure NtM (rb:Nat) (A:Option Addr) (c:Nat) (t:List UInt8) (l:List Tok) (w0:World) (xb sb:Nat) (op n:Int) (nm:List UInt8) (A':Option Addr) (c':Nat) (ks:List Ex) (s:RSt) (wr:World):Prop where
  hc:ks.length≤c'
  hm:c'≤maxLen
  hp:ExP op n nm
  rw:Rw ExV 4 wr (fun b=>w0.heap.size<b∧b<wr.heap.size∧b≠xb) A' ks.length ks
  box:XV wr xb op n nm A' ks.length c'
  res:ZB wr w0.heap.size
  words:wr.heap[sb]? = some (.cells #[.string ⟨[60].toArray⟩,.string ⟨[62].toArray⟩,.string ⟨[61].toArray⟩] 9 (0,0))
  start:∃ s0,RS rb A c t l s0 w0
  left:LeftR rb A c l s w0 wr
  le:s.i≤l.length
  nb:w0.heap.size<xb∧xb<sb
section
variable {rb : Nat} {A : Option Addr} {c : Nat} {t : List UInt8} {l : List Tok} {w0 : World} {xb sb : Nat} {op n : Int} {nm : List UInt8} {A' : Option Addr} {c' : Nat} {ks : List Ex} {s s' : RSt} {wr wr' : World}
theorem NtM.rs (h:NtM rb A c t l w0 xb sb op n nm A' c' ks s wr):RS rb A c t l s wr:=by
  obtain ⟨s0,h0⟩:=h.start;exact h0.left h.left h.le
theorem NtM.rlt (h:NtM rb A c t l w0 xb sb op n nm A' c' ks s wr):rb<w0.heap.size:=by
  obtain ⟨s0,h0⟩:=h.start;exact h0.ltp
theorem NtM.slt (h:NtM rb A c t l w0 xb sb op n nm A' c' ks s wr):sb<wr.heap.size:=(Array.getElem?_eq_some_iff.1 h.words).1
theorem NtM.step (h:NtM rb A c t l w0 xb sb op n nm A' c' ks s wr) (k:LeftR rb A c l s' wr wr') (hs:s'.i≤l.length):NtM rb A c t l w0 xb sb op n nm A' c' ks s' wr':=by
  have hr:=h.rlt;have hn:=h.nb;have hx:=h.slt;refine ⟨h.hc,h.hm,h.hp,h.rw.mono ExV.mono (fun b hb=>⟨hb.1,Nat.lt_of_lt_of_le hb.2.1 k.1.size,hb.2.2⟩) (zah k.1 fun b hb=>⟨hb.2.1,fun q=>by injection q;have:=hb.1;omega⟩),h.box.grown k.1 (fun q=>by injection q;omega),h.res.leftR k (by omega),?_,h.start,h.left.trans k,hs,hn⟩
  exact (k.1.block sb hx (fun q=>by injection q;omega)).trans h.words
theorem NtM.below (h:NtM rb A c t l w0 xb sb op n nm A' c' ks s wr) (k:Below wr.heap.size wr wr'):NtM rb A c t l w0 xb sb op n nm A' c' ks s wr':=h.step ((LeftR.refl h.rs).below k) h.le
theorem NtM.word (h:NtM rb A c t l w0 xb sb op n nm A' c' ks s wr) {k:Nat} {x:List UInt8} (hk:[[60],[62],[61]][k]? = some x):wr.cell? ⟨sb,k,none⟩=some (.string ⟨x.toArray⟩):=by
  rw [cell_of_row wr sb k _ _ (0,0) h.words]
  match k,hk with
  | 0,hk | 1,hk | 2,hk=>cases hk;rfl
theorem NtM.ret (h:NtM rb A c t l w0 xb sb op n nm A' c' ks s wr) {opn op2 n2:Int} {nm2:List UInt8} {A2:Option Addr} {c2:Nat} {ks2:List Ex} {S:Nat→Prop} {b:Nat} (hop:(Lit.int .i64 opn).wf=true)
    (k1:ks2.length≤c2) (k2:c2≤maxLen) (k3:ExP op2 n2 nm2) (hy:Rw ExV 4 wr S A2 ks2.length ks2) (hS:∀ b,S b→w0.heap.size<b∧b<wr.heap.size)
    (hb:Below wr.heap.size wr wr') (hb1:wr.heap.size≤b) (hb2:b<wr'.heap.size) (hh:wr'.heap[b]? = some (zcy op n nm A' ks.length c' op2 n2 nm2 A2 ks2.length c2)) :
    RetXR rb A c l (.mk opn 0 [] [.mk op n nm ks,.mk op2 n2 nm2 ks2]) s w0 (.returned (exV opn 0 [] (some ⟨b,0,none⟩) 2 2)) (set4 wr' w0.heap.size (.int .i64 opn) (.int .i64 0) (.string ⟨#[]⟩) (.slice (some ⟨b,0,none⟩) 2 2)):=by
  have hr:=h.rlt;have hn:=h.nb;have hx:=h.slt;have kV:KeepOn (fun b=>b<wr.heap.size) wr wr':=zab hb fun b q=>q
  have hs:=hb.size;refine RetXR.put (S:=fun b=>w0.heap.size<b∧b<wr'.heap.size) (ks:=[.mk op n nm ks,.mk op2 n2 nm2 ks2]) (Nat.le_refl _) (by unfold maxLen;decide) ⟨hop,by decide,by simp⟩ ?_ (fun b q=>q) (h.left.below hb) h.le hr
  refine zhj hh (ExV.mk h.hc h.hm h.hp (h.rw.mono ExV.mono (fun b q=>⟨q.1,by omega⟩) (kV.mono fun b q=>q.2.1))) (ExV.mk k1 k2 k3 (hy.mono ExV.mono (fun b q => ?_) (kV.mono fun b q=>(hS b q).2))) ⟨by omega,hb2⟩
  have:=hS b q;exact ⟨by omega,by omega⟩
end
theorem zkq {rb:Nat} {A:Option Addr} {c:Nat} {l:List Tok} {w w1:World} {op n:Int} {nm:List UInt8} {A':Option Addr} {c':Nat} {ks:List Ex} {s:RSt} {S:Nat→Prop} (opn:Int) (hop:(Lit.int .i64 opn).wf=true)
    (h1:ks.length≤c') (h2:c'≤maxLen) (h3:ExP op n nm) (hr:Rw ExV 4 w1 S A' ks.length ks) (hS:∀ b,S b→w.heap.size<b∧b<w1.heap.size) (hl:LeftR rb A c l s w w1) (hj:s.i≤l.length) (hp:rb<w.heap.size) (hw:w.heap.size<w1.heap.size) :
    RetXR rb A c l (.mk opn 0 [] [.mk op n nm ks]) s w (.returned (exV opn 0 [] (some ⟨w1.heap.size,0,none⟩) 1 1))
      ((set4 w1 w.heap.size (.int .i64 opn) (.int .i64 0) (.string ⟨#[]⟩) (.slice (some ⟨w1.heap.size,0,none⟩) 1 1)).alloc (.cells #[.int .i64 op,.int .i64 n,.string ⟨nm.toArray⟩,.slice A' ks.length c'] 48)):=by
  have g:=zaD w1 w.heap.size (.int .i64 opn) (.int .i64 0) (.string ⟨#[]⟩) (.slice (some ⟨w1.heap.size,0,none⟩) 1 1);have z:=zaz w1 w.heap.size (.int .i64 opn) (.int .i64 0) (.string ⟨#[]⟩) (.slice (some ⟨w1.heap.size,0,none⟩) 1 1);refine ⟨opn,0,[],some ⟨w1.heap.size,0,none⟩,1,[.mk op n nm ks],rfl,rfl,Nat.le_refl _,by unfold maxLen;decide,⟨hop,by decide,by simp⟩,?_,(hl.put (Nat.le_refl _) (by omega) _ _ _ _).alloc _,hj⟩
  generalize set4 w1 w.heap.size (.int .i64 opn) (.int .i64 0) (.string ⟨#[]⟩) (.slice (some ⟨w1.heap.size,0,none⟩) 1 1)=V at *;have hh:=heap_alloc_new V (.cells #[.int .i64 op,.int .i64 n,.string ⟨nm.toArray⟩,.slice A' ks.length c'] 48);rw [z] at hh;refine zk2 hh (ExV.mk h1 h2 h3 ?_) ⟨by omega,by simp;omega⟩
  refine hr.mono ExV.mono (fun b hb => ?_) ((zah g fun b hb=>⟨(hS b hb).2,fun q=>by have:=(hS b hb).1;injection q;omega⟩).trans (zab (zaa V _) fun b hb=>by have:=hS b hb;omega))
  have:=hS b hb;refine ⟨by omega,?_⟩
  simp only [World.size_alloc];omega
theorem zd0 {rb:Nat} {A:Option Addr} {c:Nat} {l:List Tok} {s:RSt} {w4 w5:World} (h:LeftR rb A c l s (w4.drew.alloc (Obj.cells #[.int .i64 8,.int .i64 9,.int .i64 10] 3)) w5) (hr:rb<w4.heap.size) :
    w5.cell? ⟨w4.heap.size,0,none⟩=some (.int .i64 8)∧w5.cell? ⟨w4.heap.size,1,none⟩=some (.int .i64 9)∧w5.cell? ⟨w4.heap.size,2,none⟩=some (.int .i64 10):=by
  have hh:=(h.1.block w4.heap.size (by rw [World.size_alloc];show w4.heap.size<w4.heap.size+1;omega) (fun q=>by injection q;omega)).trans (heap_alloc_new w4.drew (Obj.cells #[.int .i64 8,.int .i64 9,.int .i64 10] 3));exact ⟨by rw [cell_of_row w5 _ 0 _ _ (0,0) hh];rfl,by rw [cell_of_row w5 _ 1 _ _ (0,0) hh];rfl,by rw [cell_of_row w5 _ 2 _ _ (0,0) hh];rfl⟩
def NtR (rb:Nat) (A:Option Addr) (c:Nat) (t:List UInt8) (l:List Tok) (w0:World) (xb sb:Nat) (op n:Int) (nm:List UInt8) (A':Option Addr) (c':Nat) (ks:List Ex) (s:RSt) (k:Nat) (v:Value) (wq:World):Prop:=
  ∃ j:Nat,j≤3∧3-j<k∧v = .int .i64 (j:Int)∧(∀ i x,i<j→[[60],[62],[61]][i]? = some x→hitR l s x=false)∧NtM rb A c t l w0 xb sb op n nm A' c' ks s wq
theorem not_r {rb:Nat} {A:Option Addr} {c:Nat} {t:List UInt8} {l:List Tok} {f:Nat} (hN:zdX rb A c t l 84 (rLev l (f+1) .neg)) (hP:zew rb A c t l 4 (rLev l f .sum)):zdX rb A c t l 84 (rLev l (f+2) .neg):=by
  intro s w y s' hs hr;rw [ze6] at hr;have hb0:=zaa w (Obj.cells #[.int .i64 0,.int .i64 0,.string ⟨#[]⟩,.slice Option.none 0 0] 48);have hZ:=ZB.new w;have hrl:=hs.ltp;have hs1:=hs.below hb0;have C1:=zcQ [110, 111, 116] hs1
  have hle1:(if hitR l s [110, 111, 116] = true then zbO s else s:RSt).i≤l.length:=by
    split
    · exact (zg1 ‹_›).1
    · exact hs.le
  have HN:=Hi hN;have HP:=Hi hP;have HS:=Hi hs;have HS1:=Hi hs1;have HZ:=Hi hZ;have HB0:=Hi hb0;clear hN hP hs hs1 hZ hb0
  cases hq:hitR l s [110, 111, 116] with
  | true =>
    rw [hq,if_pos rfl] at hr hle1;rw [hq,if_pos rfl] at C1;obtain ⟨x,s1,h1,h2⟩:=zbk hr;have HC1:=Hi C1;have H1:=Hi h1;obtain ⟨rfl,rfl⟩:Ex.mk 4 0 [] [x]=y∧s1=s':=by injection h2 with h2;injection h2 with a b;exact ⟨a,b⟩
    clear C1 hr hq h1 h2;go_enter Tryz.func84,Tryz.ntmps84;go_wp2_with fail
    refine HC1.out.mono ?_
    rintro e' w3 ⟨rfl,hl3⟩
    have HL3:=Hi (LeftR.pre HB0.out hl3);have HS3:=Hi (HS1.out.left hl3 hle1);have Z3:=HZ.out.leftR hl3 (by omega);have hs3:=hl3.1.size;simp only [World.size_alloc] at hs3;clear hl3 HC1;go_wp2_with fail
    refine (HN.out _ _ _ _ HS3.out H1.out).mono ?_
    rintro e' w1 ⟨op,n,nm,A1,c1,ks,rfl,rfl,hc1,hm1,hp1,hr1,hl1,hi1⟩
    unfold exV;have Z1:=Z3.leftR hl1 (by omega);obtain ⟨q0,q1,q2,q3,z0,z1,z2,z3⟩:=XV.cells Z1;have hsz:=hl1.1.size;have HR1:=Hi hr1;have HZ1:=Hi Z1;have HL:=Hi (HL3.out.trans hl1);have hzl:=XV.lt Z1;clear hr1 hl1 Z1 Z3;have HPT:=Hi (zak HZ1.out 4 0 [] (some ⟨w1.heap.size,0,none⟩) 1 1);go_wp2;have hE:=zkq 4 (by decide) hc1 hm1 hp1 HR1.out (fun b hb=>by have:=hb.1;exact ⟨by omega,hb.2⟩) HL.out hi1 hrl hzl;obtain ⟨r0,r1,r2,r3,-,-,-,-⟩:=HPT.out.cells;have hsz4:=zaz w1 w.heap.size (.int .i64 4) (.int .i64 0) (.string ⟨#[]⟩) (.slice (some ⟨w1.heap.size,0,none⟩) 1 1)
    change bodyPost _ _ _ _ _ ((set4 w1 w.heap.size (.int .i64 4) (.int .i64 0) (.string ⟨#[]⟩) (.slice (some ⟨w1.heap.size,0,none⟩) 1 1)).alloc _)
    have hlt4:w.heap.size<(set4 w1 w.heap.size (.int .i64 4) (.int .i64 0) (.string ⟨#[]⟩) (.slice (some ⟨w1.heap.size,0,none⟩) 1 1)).heap.size:=by omega
    refine bodyPost_ret (v:=exV 4 0 [] (some ⟨w1.heap.size,0,none⟩) 1 1) ?_ rfl hE
    generalize set4 w1 w.heap.size (.int .i64 4) (.int .i64 0) (.string ⟨#[]⟩) (.slice (some ⟨w1.heap.size,0,none⟩) 1 1)=V at *;simp [results,Tryz.results84,go_sem,exV,r0,r1,r2,r3,hlt4]
  | false =>
  rw [hq,if_neg Bool.false_ne_true,zhc] at hr;rw [hq,if_neg Bool.false_ne_true] at hle1;rw [hq,if_neg Bool.false_ne_true] at C1;obtain ⟨x,s1,h1,h2⟩:=zbk hr;have HC1:=Hi C1;have H1:=Hi h1;have H2:=Hi h2;clear C1 hr hq h1 h2;go_enter Tryz.func84,Tryz.ntmps84;go_wp2_with fail
  refine HC1.out.mono ?_
  rintro e' w3 ⟨rfl,hl3⟩
  have HL3:=Hi (LeftR.pre HB0.out hl3);have HS3:=Hi (HS1.out.left hl3 hle1);have HZ3:=Hi (HZ.out.leftR hl3 (by omega));have hs3:=hl3.1.size;simp only [World.size_alloc] at hs3;clear hl3 HC1 HS1 HZ HB0;go_wp2_with fail
  refine (HP.out _ _ _ _ HS3.out H1.out).mono ?_
  rintro e' w2 ⟨op,nn,nm,A1,c1,ks,rfl,rfl,hc1,hm1,hp1,hr1,hl1,hi1⟩
  unfold exV;have HL1:=Hi hl1;have HR1:=Hi hr1;have hs2:=hl1.1.size;have hzl:=XV.lt HZ3.out;clear hl1 hr1;have hbx:=zaa w2 (Obj.cells #[.int .i64 op,.int .i64 nn,.string ⟨nm.toArray⟩,.slice A1 ks.length c1] 48);have hbs:=zaa (w2.alloc (Obj.cells #[.int .i64 op,.int .i64 nn,.string ⟨nm.toArray⟩,.slice A1 ks.length c1] 48)) (Obj.cells #[.string ⟨[60].toArray⟩,.string ⟨[62].toArray⟩,.string ⟨[61].toArray⟩] 9);have hbb:=zac hbx hbs hbx.size
  have hM:NtM rb A c t l w w2.heap.size (w2.heap.size+1) op nn nm A1 c1 ks s1 ((w2.alloc (Obj.cells #[.int .i64 op,.int .i64 nn,.string ⟨nm.toArray⟩,.slice A1 ks.length c1] 48)).alloc (Obj.cells #[.string ⟨[60].toArray⟩,.string ⟨[62].toArray⟩,.string ⟨[61].toArray⟩] 9)):=by
    refine ⟨hc1,hm1,hp1,?_,(XV.new w2 op nn nm A1 ks.length c1).grown (zap (row:=Option.none) hbs) (by simp),(HZ3.out.leftR HL1.out (by omega)).below hbb,?_,⟨s,HS.out⟩,(HL3.out.trans HL1.out).below hbb,hi1,by omega,by omega⟩
    · refine HR1.out.mono ExV.mono (fun b hb => ?_) (zab hbb fun b hb=>hb.2)
      have h1:=hb.1
      have h2:=hb.2
      simp only [World.size_alloc]
      omega
    · have:=heap_alloc_new (w2.alloc (Obj.cells #[.int .i64 op,.int .i64 nn,.string ⟨nm.toArray⟩,.slice A1 ks.length c1] 48)) (Obj.cells #[.string ⟨[60].toArray⟩,.string ⟨[62].toArray⟩,.string ⟨[61].toArray⟩] 9)
      rw [World.size_alloc] at this
      exact this
  have HM0:=Hi hM;clear hM hbx hbs hbb HL1 HR1 HL3 HZ3 HS3;go_wp2_with fail
  go_loopg [16] 4 (fun k v wr=>NtR rb A c t l w w2.heap.size (w2.heap.size+1) op nn nm A1 c1 ks s1 k v wr)
  case atStart=>exact ⟨0,by omega,by omega,rfl,fun i x h=>absurd h (Nat.not_lt_zero _),HM0.out⟩
  case round =>
    clear HM0;obtain ⟨j,hj,hjk,rfl,hall,hM⟩:=hrel;have HALL:=Hi hall;clear hall
    by_cases hlt:j<3
    case neg =>
      obtain rfl:j=3:=by omega
      have hm:=H2.out;rw [zet (ops:=[[60],[62],[61]]) HALL.out] at hm;obtain ⟨rfl,rfl⟩:Ex.mk op nn nm ks=y∧s1=s':=by injection hm with hm;injection hm with a b;exact ⟨a,b⟩
      obtain ⟨x0,x1,x2,x3,-,-,-,-⟩:=hM.box.cells;obtain ⟨q0,q1,q2,q3,z0,z1,z2,z3⟩:=XV.cells hM.res;have hxl:=hM.box.lt;have hzl:=XV.lt hM.res;have HPT:=Hi (zak hM.res op nn nm A1 ks.length c1);have HM:=Hi hM;clear hM hm HP H2;go_wp2
      change bodyPost _ _ _ _ _ (set4 wr w.heap.size (.int .i64 op) (.int .i64 nn) (.string ⟨nm.toArray⟩) (.slice A1 ks.length c1))
      obtain ⟨r0,r1,r2,r3,-,-,-,-⟩:=HPT.out.cells;refine bodyPost_ret (v:=exV op nn nm A1 ks.length c1) (by simp [results,Tryz.results84,go_sem,exV,r0,r1,r2,r3]) rfl ?_
      exact RetXR.put (S:=fun b=>w.heap.size<b∧b<wr.heap.size∧b≠w2.heap.size) HM.out.hc HM.out.hm HM.out.hp HM.out.rw (fun b hb=>⟨hb.1,hb.2.1⟩) HM.out.left HM.out.le hrl
    obtain ⟨wd,hwd⟩:∃ wd:List UInt8,([[60],[62],[61]]:List (List UInt8))[j]? = some wd:=⟨_,List.getElem?_eq_getElem (show j<([[60],[62],[61]]:List (List UInt8)).length from hlt)⟩;have y0:=hM.word hwd;have hslt:=hM.slt;have HCE:=Hi (zcQ wd hM.rs)
    have hle4:(if hitR l s1 wd=true then zbO s1 else s1:RSt).i≤l.length:=by
      split
      · exact (zg1 ‹_›).1
      · exact hM.le
    have HM:=Hi hM;have HWD:=Hi hwd;clear hM hwd
    cases hq:hitR l s1 wd with
    | false =>
      rw [hq] at HCE hle4;have HQ:=Hi hq;clear hq;go_wp2_with fail
      refine HCE.out.mono ?_
      rintro e' w4 ⟨rfl,hl4⟩
      have HM4:=Hi (HM.out.step hl4 hle4);clear hl4 HM HCE y0;go_wp2;go_roundg (3-j)
      case measure=>omega
      case rel=>exact ⟨j+1,by omega,by omega,by go_num,fun i x hi hx=>by
        rcases Nat.lt_succ_iff_lt_or_eq.1 hi with q | rfl
        · exact HALL.out i x q hx
        · rw [HWD.out] at hx;cases hx;exact HQ.out,HM4.out⟩
    | true =>
      rw [hq,if_pos rfl] at hle4;rw [hq,if_pos rfl] at HCE;have hm:=H2.out;rw [zeu HALL.out HWD.out hq] at hm;obtain ⟨z,s2,h1,h2⟩:=zbk hm;have H3:=Hi h1;obtain ⟨rfl,rfl⟩:Ex.mk (zal wd) 0 [] [.mk op nn nm ks,z]=y∧s2=s':=by injection h2 with h2;injection h2 with a b;exact ⟨a,b⟩
      obtain ⟨opn,hopn,hopw⟩:∃ opn,zal wd=opn∧(Lit.int .i64 opn).wf=true:=⟨_,rfl,(zg6 wd).1⟩;rw [hopn]
      have hopj:opn=8+(j:Int):=by
        rw [← hopn];have:=HWD.out
        rcases (by omega:j=0∨j=1∨j=2) with rfl | rfl | rfl <;> (cases this;decide)
      have HOP:=Hi hopw;have HOJ:=Hi hopj;clear hq hm h1 h2 H2 hopn hopw hopj;go_wp2_with fail
      refine HCE.out.mono ?_
      rintro e' w4 ⟨rfl,hl4⟩
      have hM4:=HM.out.step hl4 hle4;have HM4:=Hi hM4;have HM4d:=Hi (hM4.below (zad (Below.refl _ _)));have HM4a:=Hi (HM4d.out.below (zaa w4.drew (Obj.cells #[.int .i64 8,.int .i64 9,.int .i64 10] 3)));have HCL:=Hi (HP.out _ _ _ _ HM4d.out.rs H3.out);have HCA:=Hi (HP.out _ _ _ _ HM4a.out.rs H3.out);obtain ⟨x0,x1,x2,x3,-,-,-,-⟩:=hM4.box.cells;have hlx4:=hM4.box.lt;clear hl4 HM HCE y0 hM4;have HT0:=Hi (fun op2 n2 nm2 A2 k2 c2 W=>zjG opn op nn nm A1 ks.length c1 op2 n2 nm2 A2 k2 c2 W);have HZ4:=Hi (show w.heap.size<w4.heap.size from XV.lt HM4.out.res);have HRL:=Hi (show rb<w4.heap.size from Nat.lt_of_lt_of_le hrl (HM4.out.left.1.size))
      rcases (by have:=HOJ.out;omega:(j=0∧opn=8)∨(j=1∧opn=9)∨(j=2∧opn=10)) with ⟨rfl,rfl⟩ | ⟨rfl,rfl⟩ | ⟨rfl,rfl⟩
      · go_wp2
        go_region_law
          (first
           | ((go_simp;go_at_call 88;refine (HT2.out _).mono ?_;rintro e' w6 ⟨b6,rfl,hb6,hb61,hb62,hh6⟩;unfold exV;have HB6:=Hi (show Below w5.heap.size w5 w6 by first | exact hb6 | exact zac (zaa _ _) hb6 (zaa _ _).size);have M6:=HM5.out.below HB6.out;have g6:=XV.cells M6.res;have c0:=g6.1;have c1':=g6.2.1;have c2':=g6.2.2.1;have c3:=g6.2.2.2.1;have d0:=g6.2.2.2.2.1;have d1:=g6.2.2.2.2.2.1;have d2:=g6.2.2.2.2.2.2.1;have d3:=g6.2.2.2.2.2.2.2;have hlz6:=XV.lt M6.res;have HM6:=Hi M6;have HH6:=Hi hh6;clear hb6 hh6 M6 g6))
           | ((go_simp;go_at_call 68;(first | refine HCL.out.mono ?_ | refine HCA.out.mono ?_);rintro e' w5 ⟨op2,n2,nm2,A2,c2,ks2,rfl,rfl,hc2,hm2,hp2,hr2,hl2,hi2⟩;unfold exV;(first | (obtain ⟨k0,k1',k2'⟩:=zd0 hl2 HRL.out) | skip);have M5:=(show NtM rb A c t l w w2.heap.size (w2.heap.size+1) op nn nm A1 c1 ks s2 w5 by first | exact HM4d.out.step hl2 hi2 | exact HM4a.out.step hl2 hi2);have HM5:=Hi M5;have x50:=M5.box.cells.1;have x51:=M5.box.cells.2.1;have x52:=M5.box.cells.2.2.1;have x53:=M5.box.cells.2.2.2.1;have hlx5:=M5.box.lt;have HR2:=Hi hr2;have hs5:=hl2.1.size;have HT2:=Hi (fun W=>HT0.out op2 n2 nm2 A2 ks2.length c2 W);clear hr2 hl2 M5)))
        all_goals
          go_wp2
          have hE:=HM5.out.ret HOP.out hc2 hm2 hp2 HR2.out (fun b hb=>⟨by have h1:=hb.1;first | exact Nat.lt_of_lt_of_le HZ4.out h1 | exact Nat.lt_of_lt_of_le HZ4.out (Nat.le_trans (zaa w4.drew _).size h1),hb.2⟩) HB6.out (by first | exact hb61 | exact Nat.le_trans (zaa _ _).size hb61) hb62 HH6.out
          have HPT:=zak HM6.out.res 8 0 [] (some ⟨b6,0,none⟩) 2 2
          change bodyPost _ _ _ _ _ (set4 w6 w.heap.size (.int .i64 8) (.int .i64 0) (.string ⟨#[]⟩) (.slice (some ⟨b6,0,none⟩) 2 2))
          refine bodyPost_ret (v:=exV 8 0 [] (some ⟨b6,0,none⟩) 2 2) ?_ rfl hE
          obtain ⟨r0,r1,r2,r3,-,-,-,-⟩:=HPT.cells
          simp [results,Tryz.results84,go_sem,exV,r0,r1,r2,r3]
      · go_wp2
        go_region_law
          (first
           | ((go_simp;go_at_call 88;refine (HT2.out _).mono ?_;rintro e' w6 ⟨b6,rfl,hb6,hb61,hb62,hh6⟩;unfold exV;have HB6:=Hi (show Below w5.heap.size w5 w6 by first | exact hb6 | exact zac (zaa _ _) hb6 (zaa _ _).size);have M6:=HM5.out.below HB6.out;have g6:=XV.cells M6.res;have c0:=g6.1;have c1':=g6.2.1;have c2':=g6.2.2.1;have c3:=g6.2.2.2.1;have d0:=g6.2.2.2.2.1;have d1:=g6.2.2.2.2.2.1;have d2:=g6.2.2.2.2.2.2.1;have d3:=g6.2.2.2.2.2.2.2;have hlz6:=XV.lt M6.res;have HM6:=Hi M6;have HH6:=Hi hh6;clear hb6 hh6 M6 g6))
           | ((go_simp;go_at_call 68;(first | refine HCL.out.mono ?_ | refine HCA.out.mono ?_);rintro e' w5 ⟨op2,n2,nm2,A2,c2,ks2,rfl,rfl,hc2,hm2,hp2,hr2,hl2,hi2⟩;unfold exV;(first | (obtain ⟨k0,k1',k2'⟩:=zd0 hl2 HRL.out) | skip);have M5:=(show NtM rb A c t l w w2.heap.size (w2.heap.size+1) op nn nm A1 c1 ks s2 w5 by first | exact HM4d.out.step hl2 hi2 | exact HM4a.out.step hl2 hi2);have HM5:=Hi M5;have x50:=M5.box.cells.1;have x51:=M5.box.cells.2.1;have x52:=M5.box.cells.2.2.1;have x53:=M5.box.cells.2.2.2.1;have hlx5:=M5.box.lt;have HR2:=Hi hr2;have hs5:=hl2.1.size;have HT2:=Hi (fun W=>HT0.out op2 n2 nm2 A2 ks2.length c2 W);clear hr2 hl2 M5)))
        all_goals
          go_wp2
          have hE:=HM5.out.ret HOP.out hc2 hm2 hp2 HR2.out (fun b hb=>⟨by have h1:=hb.1;first | exact Nat.lt_of_lt_of_le HZ4.out h1 | exact Nat.lt_of_lt_of_le HZ4.out (Nat.le_trans (zaa w4.drew _).size h1),hb.2⟩) HB6.out (by first | exact hb61 | exact Nat.le_trans (zaa _ _).size hb61) hb62 HH6.out
          have HPT:=zak HM6.out.res 9 0 [] (some ⟨b6,0,none⟩) 2 2
          change bodyPost _ _ _ _ _ (set4 w6 w.heap.size (.int .i64 9) (.int .i64 0) (.string ⟨#[]⟩) (.slice (some ⟨b6,0,none⟩) 2 2))
          refine bodyPost_ret (v:=exV 9 0 [] (some ⟨b6,0,none⟩) 2 2) ?_ rfl hE
          obtain ⟨r0,r1,r2,r3,-,-,-,-⟩:=HPT.cells
          simp [results,Tryz.results84,go_sem,exV,r0,r1,r2,r3]
      · go_wp2
        go_region_law
          (first
           | ((go_simp;go_at_call 88;refine (HT2.out _).mono ?_;rintro e' w6 ⟨b6,rfl,hb6,hb61,hb62,hh6⟩;unfold exV;have HB6:=Hi (show Below w5.heap.size w5 w6 by first | exact hb6 | exact zac (zaa _ _) hb6 (zaa _ _).size);have M6:=HM5.out.below HB6.out;have g6:=XV.cells M6.res;have c0:=g6.1;have c1':=g6.2.1;have c2':=g6.2.2.1;have c3:=g6.2.2.2.1;have d0:=g6.2.2.2.2.1;have d1:=g6.2.2.2.2.2.1;have d2:=g6.2.2.2.2.2.2.1;have d3:=g6.2.2.2.2.2.2.2;have hlz6:=XV.lt M6.res;have HM6:=Hi M6;have HH6:=Hi hh6;clear hb6 hh6 M6 g6))
           | ((go_simp;go_at_call 68;(first | refine HCL.out.mono ?_ | refine HCA.out.mono ?_);rintro e' w5 ⟨op2,n2,nm2,A2,c2,ks2,rfl,rfl,hc2,hm2,hp2,hr2,hl2,hi2⟩;unfold exV;(first | (obtain ⟨k0,k1',k2'⟩:=zd0 hl2 HRL.out) | skip);have M5:=(show NtM rb A c t l w w2.heap.size (w2.heap.size+1) op nn nm A1 c1 ks s2 w5 by first | exact HM4d.out.step hl2 hi2 | exact HM4a.out.step hl2 hi2);have HM5:=Hi M5;have x50:=M5.box.cells.1;have x51:=M5.box.cells.2.1;have x52:=M5.box.cells.2.2.1;have x53:=M5.box.cells.2.2.2.1;have hlx5:=M5.box.lt;have HR2:=Hi hr2;have hs5:=hl2.1.size;have HT2:=Hi (fun W=>HT0.out op2 n2 nm2 A2 ks2.length c2 W);clear hr2 hl2 M5)))
        all_goals
          go_wp2
          have hE:=HM5.out.ret HOP.out hc2 hm2 hp2 HR2.out (fun b hb=>⟨by have h1:=hb.1;first | exact Nat.lt_of_lt_of_le HZ4.out h1 | exact Nat.lt_of_lt_of_le HZ4.out (Nat.le_trans (zaa w4.drew _).size h1),hb.2⟩) HB6.out (by first | exact hb61 | exact Nat.le_trans (zaa _ _).size hb61) hb62 HH6.out
          have HPT:=zak HM6.out.res 10 0 [] (some ⟨b6,0,none⟩) 2 2
          change bodyPost _ _ _ _ _ (set4 w6 w.heap.size (.int .i64 10) (.int .i64 0) (.string ⟨#[]⟩) (.slice (some ⟨b6,0,none⟩) 2 2))
          refine bodyPost_ret (v:=exV 10 0 [] (some ⟨b6,0,none⟩) 2 2) ?_ rfl hE
          obtain ⟨r0,r1,r2,r3,-,-,-,-⟩:=HPT.cells
          simp [results,Tryz.results84,go_sem,exV,r0,r1,r2,r3]
end Go.Proofs.YtcikenlflcofbaaGreatDoor
