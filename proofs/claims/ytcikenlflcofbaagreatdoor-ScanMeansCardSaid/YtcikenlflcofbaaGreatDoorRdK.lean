/-
  The operands of an operation that is written with a word: the reader's call.
-/
import Derived.Test.YtcikenlflcofbaaGreatDoorRdN
import Derived.Test.YtcikenlflcofbaaGreatDoorCall
import Derived.Deep.Cut
set_option maxRecDepth 100000
set_option maxHeartbeats 8000000
namespace Go.Proofs.YtcikenlflcofbaaGreatDoor
open Go.RowKit
structure CaM (rb:Nat) (A:Option Addr) (c:Nat) (t:List UInt8) (l:List Tok) (w0:World) (op n:Int) (A':Option Addr) (m c':Nat) (T:Nat→Prop) (acc:List Ex) (s:RSt) (wr:World):Prop where
  len:acc.length=m
  box:XV wr (w0.heap.size+1) op n [] A' m c'
  own:XOwn wr (w0.heap.size+2) T (.slice A' m c') acc
  res:ZB wr w0.heap.size
  start:∃ s0,RS rb A c t l s0 w0
  left:LeftR rb A c l s w0 wr
  le:s.i≤l.length
theorem LeftR.own {rb:Nat} {A:Option Addr} {c:Nat} {l:List Tok} {s:RSt} {w w' w'':World} {row:Option Nat} (h:LeftR rb A c l s w w') (hg:w'.grownBy w'' row) (hr:∀ b,row=some b→w.heap.size≤b) (hp:rb<w.heap.size):LeftR rb A c l s w w'' :=
  ⟨⟨hg.os.trans h.1.os,hg.tape.trans h.1.tape,hg.output.trans h.1.output,Nat.le_trans h.1.size hg.size,fun k hk hn=>(hg.block k (Nat.lt_of_lt_of_le hk h.1.size) (fun q=>by have:=hr k q.symm;omega)).trans (h.1.block k hk hn)⟩,
    (hg.block rb h.lt (fun q=>by have:=hr rb q.symm;omega)).trans h.2⟩
section
variable {rb : Nat} {A : Option Addr} {c : Nat} {t : List UInt8} {l : List Tok} {w0 : World} {op n : Int} {A' : Option Addr} {m c' : Nat} {T : Nat → Prop} {acc : List Ex} {s s' : RSt} {wr wr' : World}
theorem CaM.rs (h:CaM rb A c t l w0 op n A' m c' T acc s wr):RS rb A c t l s wr:=by
  obtain ⟨s0,h0⟩:=h.start;exact h0.left h.left h.le
theorem CaM.rlt (h:CaM rb A c t l w0 op n A' m c' T acc s wr):rb<w0.heap.size:=by
  obtain ⟨s0,h0⟩:=h.start;exact h0.ltp
theorem CaM.step (h:CaM rb A c t l w0 op n A' m c' T acc s wr) (k:LeftR rb A c l s' wr wr') (hs:s'.i≤l.length):CaM rb A c t l w0 op n A' m c' T acc s' wr':=by
  have hr:=h.rlt;exact ⟨h.len,h.box.grown k.1 (fun q=>by injection q;omega),h.own.grown k.1 (by omega),h.res.leftR k (by omega),h.start,h.left.trans k,hs⟩
theorem CaM.below (h:CaM rb A c t l w0 op n A' m c' T acc s wr) (k:Below wr.heap.size wr wr'):CaM rb A c t l w0 op n A' m c' T acc s wr':=h.step ((LeftR.refl h.rs).below k) h.le
theorem CaM.drew (h:CaM rb A c t l w0 op n A' m c' T acc s wr):CaM rb A c t l w0 op n A' m c' T acc s wr.drew:=h.below (zad (Below.refl _ _))
theorem CaM.setn (h:CaM rb A c t l w0 op n A' m c' T acc s wr) (n':Int):CaM rb A c t l w0 op n' A' m c' T acc s (wr.setCell ⟨w0.heap.size+1,1,none⟩ (.int .i64 n')):=
  ⟨h.len,h.box.set1 n',h.own.grown (zaf wr (w0.heap.size+1) 1 _) (by omega),ZB.of (XV.other h.res _ (by omega)),h.start,h.left.own (zaf wr (w0.heap.size+1) 1 _) (fun b q=>by injection q;omega) h.rlt,h.le⟩
theorem CaM.tok (h:CaM rb A c t l w0 op n A' m c' T acc s wr) {i:Nat} (hi:i<l.length):∃ b o,A=some ⟨b,o,none⟩∧b<w0.heap.size∧b≠rb∧TRB wr b (o+i*3) (tk l i)∧TokW t (tk l i):=by
  obtain ⟨s0,h0⟩:=h.start;obtain ⟨b,o,cs,x,e,⟨hb,hne⟩,hx,_,hR,hat⟩:=h0.toks.at_ hi;obtain rfl:cs=_:=hR;have ht:tk l i=x:=by unfold tk;rw [List.getD_eq_getElem?_getD,hx];rfl
  rw [ht];have hat2:wr.rangeAt b (o+i*3) _:=(zah h.left.1 (S:=fun q=>q=b) fun q e=>e ▸ ⟨hb,fun e=>hne (by injection e)⟩).range rfl hat;exact ⟨b,o,e,hb,hne,⟨by simpa using hat2 0 _ rfl,hat2 1 _ rfl,hat2 2 _ rfl⟩,h0.words x (List.mem_of_getElem? hx)⟩
theorem TRB.keep {w w':World} {b o:Nat} {k:Tok} (h:TRB w b o k) (hb:w'.heap[b]? = w.heap[b]?):TRB w' b o k:=
  ⟨(World.cell?_of_block (a:=⟨b,o,none⟩) hb).trans h.c0,(World.cell?_of_block (a:=⟨b,o+1,none⟩) hb).trans h.c1,(World.cell?_of_block (a:=⟨b,o+2,none⟩) hb).trans h.c2⟩
theorem CaM.ret (h:CaM rb A c t l w0 op n A' m c' T acc s wr) (ho:(Lit.int .i64 op).wf=true) (hn:(Lit.int .i64 n).wf=true) :
    RetXR rb A c l (.mk op n [] acc) s w0 (.returned (exV op n [] A' m c')) (set4 wr w0.heap.size (.int .i64 op) (.int .i64 n) (.string ⟨#[]⟩) (.slice A' m c')):=by
  obtain ⟨A7,c7,e7,hc7,hm7⟩:=h.own.shape;have hl:=h.len;subst hl;injection e7 with e1 e2 e3
  subst e1;subst e3;exact RetXR.put (S:=fun b=>w0.heap.size+2≤b∧b<wr.heap.size) hc7 hm7 ⟨ho,hn,by simp⟩ (h.own.rw rfl fun b h1 h2=>⟨h1,h2⟩) (fun b hb=>⟨by omega,hb.2⟩) h.left h.le h.rlt
end
def CaR (rb:Nat) (A:Option Addr) (c:Nat) (t:List UInt8) (l:List Tok) (w0:World) (e:RSt→Option (Ex × RSt)) (op:Int) (y:Ex) (s':RSt) (ar:Nat) (k:Nat) (v:Value) (wr:World):Prop:=
  ∃ acc m s A' c' T ks s3,zf3 l e k acc s=some (ks,s3)∧zey l op ks s3=(y,s')∧m+k=ar∧v = .int .i64 (m:Int)∧CaM rb A c t l w0 op 0 A' m c' T acc s wr
def PartK (rb:Nat) (A:Option Addr) (c:Nat) (t:List UInt8) (l:List Tok) (e:RSt→Option (Ex × RSt)):Prop:=
  ∀ op s w y s',13≤op→op≤22→RS rb A c t l s w→zkl l e op s=some (y,s')→Calls Tryz.prog 100 #[.pointer (some ⟨rb,0,none⟩),.int .i64 op] w (RetXR rb A c l y s' w)
theorem call_r {rb:Nat} {A:Option Addr} {c:Nat} {t:List UInt8} {l:List Tok} {e:RSt→Option (Ex × RSt)} (hP:zdX rb A c t l 43 e):PartK rb A c t l e:=by
  intro op s w y s' ho1 ho2 hs hr;obtain ⟨ks,s3,h1,h2⟩:=zbk hr;have h2':zey l op ks s3=(y,s'):=by injection h2
  have hb1:=zaa w (Obj.cells #[.int .i64 0,.int .i64 0,.string ⟨#[]⟩,.slice Option.none 0 0] 48);have hb2:=zaa (w.alloc (Obj.cells #[.int .i64 0,.int .i64 0,.string ⟨#[]⟩,.slice Option.none 0 0] 48)) (Obj.cells #[.int .i64 op,.int .i64 0,.string ⟨#[]⟩,.slice Option.none 0 0] 48);have hb:=zac hb1 hb2 hb1.size;have hwf:(Lit.int .i64 op).wf=true:=wf64 (by omega) (by omega);have hrl:=hs.ltp;have hX:=XV.new (w.alloc (Obj.cells #[.int .i64 0,.int .i64 0,.string ⟨#[]⟩,.slice Option.none 0 0] 48)) op 0 [] Option.none 0 0;rw [World.size_alloc] at hX
  have hM:CaM rb A c t l w op 0 Option.none 0 0 (fun _=>False) [] s ((w.alloc (Obj.cells #[.int .i64 0,.int .i64 0,.string ⟨#[]⟩,.slice Option.none 0 0] 48)).alloc (Obj.cells #[.int .i64 op,.int .i64 0,.string ⟨#[]⟩,.slice Option.none 0 0] 48)):=
    ⟨rfl,hX,XOwn.nil _ _,(ZB.new w).below hb2,⟨s,hs⟩,(LeftR.refl hs).below hb,hs.le⟩
  obtain ⟨ar,har,har1⟩:∃ ar:Nat,zav op=(ar:Int)∧ar≤3:=by
    have hop:op=13∨op=14∨op=15∨op=16∨op=17∨op=18∨op=19∨op=20∨op=21∨op=22:=by omega
    rcases hop with rfl | rfl | rfl | rfl | rfl | rfl | rfl | rfl | rfl | rfl
    all_goals first | exact ⟨1,by decide,by omega⟩ | exact ⟨2,by decide,by omega⟩ | exact ⟨3,by decide,by omega⟩
  have C3:=fun W=>zb5 op W
  rw [har] at h1 C3;rw [Int.toNat_natCast] at h1;have HM0:=Hi hM;have HC1:=Hi (zbE [40] hM.rs)
  have hle1:=zcu (v := [40]) hM.le
  have HP:=Hi hP;have HWF:=Hi hwf;have HC3:=Hi C3;have H1:=Hi h1;have H2:=Hi h2';clear hP hs hr h1 h2 h2' hb1 hb2 hb hwf hX hM C3 har;go_enter Tryz.func100,Tryz.ntmps100;go_wp2_with fail
  refine HC1.out.mono ?_
  rintro e' w1 ⟨rfl,hl1⟩
  have HM1:=Hi (HM0.out.step hl1 hle1);clear hl1 HM0 HC1;go_wp2_with fail
  go_loopg [6] ar (fun k v wr=>CaR rb A c t l w e op y s' ar k v wr)
  case atStart=>exact ⟨[],0,_,Option.none,0,_,ks,s3,H1.out,H2.out,by omega,rfl,HM1.out⟩
  case round =>
    clear HM1 H1 H2;obtain ⟨acc,m,s,A',c',T,ks,s3,ha,hre,hmk,rfl,hM⟩:=hrel;have hxl:=hM.box.lt
    cases gk with
    | zero =>
      have hmlt:¬ m<ar:=by omega
      obtain ⟨rfl,rfl⟩:acc=ks∧s=s3:=by injection ha with ha;injection ha with a b;exact ⟨a,b⟩
      have HM:=Hi hM;have HRE:=Hi hre;clear hM ha hre
      by_cases htm:op=19∨op=20
      case neg =>
        have o1:(op == 19)=false:=by simp;exact fun q=>htm (.inl q)
        have o2:(op == 20)=false:=by simp;exact fun q=>htm (.inr q)
        have hT:zbU op=false:=by unfold zbU;simp [htm]
        have hre:=HRE.out;unfold zey at hre;rw [hT,if_neg Bool.false_ne_true] at hre;obtain ⟨rfl,rfl⟩:Ex.mk op 0 [] acc=y∧zb2 l [41] s=s':=by injection hre with a b;exact ⟨a,b⟩
        have HC5:=Hi (zbE [41] HM.out.rs)
        have hle5:=zcu (v := [41]) HM.out.le
        have HWN:=Hi (show (Lit.int .i64 0).wf=true from rfl);clear hre hT htm HRE HP;go_wp2_with fail
        refine (HC3.out _).mono ?_
        rintro e' w9 ⟨rfl,rfl⟩
        go_wp2_with fail
        refine HC5.out.mono ?_
        rintro e' w5 ⟨rfl,hl5⟩
        have HM5:=Hi (HM.out.step hl5 hle5);clear hl5 HM HC5;obtain ⟨x0,x1,x2,x3,-,-,-,-⟩:=HM5.out.box.cells;obtain ⟨q0,q1,q2,q3,z0,z1,z2,z3⟩:=XV.cells HM5.out.res;have hx5:=HM5.out.box.lt;have hz5:=XV.lt HM5.out.res;have HPT:=Hi (zak HM5.out.res op 0 [] A' m c');go_wp2
        change bodyPost _ _ _ _ _ (set4 w5 w.heap.size (.int .i64 op) (.int .i64 0) (.string ⟨#[]⟩) (.slice A' m c'))
        obtain ⟨r0,r1,r2,r3,-,-,-,-⟩:=HPT.out.cells;refine bodyPost_ret (v:=exV op 0 [] A' m c') (by simp [results,Tryz.results100,go_sem,exV,r0,r1,r2,r3]) rfl ?_
        exact HM5.out.ret HWF.out HWN.out
      have hT:zbU op=true:=by unfold zbU;simp [htm]
      have hre:=HRE.out;unfold zey at hre;rw [hT,if_pos rfl] at hre;have HRE2:=Hi hre;have HC5:=Hi (zbE [44] HM.out.rs);have hle5:=zcu (v := [44]) HM.out.le;have TT:=Hi htm
      have htm2:(op == 19)=true∨(op == 19)=false∧(op == 20)=true:=by
        rcases htm with rfl | rfl
        · exact .inl rfl
        · exact .inr ⟨rfl,rfl⟩
      clear hre hT htm HRE HP;obtain ⟨s2,hs2⟩:∃ s2,zb2 l [44] s=s2:=⟨_,rfl⟩;rw [hs2] at HRE2 HC5 hle5;clear hs2
      rcases htm2 with o1 | ⟨o1,o2⟩
      all_goals
        go_wp2_with fail
        refine (HC3.out _).mono ?_
        rintro e' w9 ⟨rfl,rfl⟩
        go_wp2_with fail
        refine HC5.out.mono ?_
        rintro e' w5 ⟨rfl,hl5⟩
        have hM5:=HM.out.step hl5 hle5;clear hl5;obtain ⟨p0,p1,p2,p3,f1,f2,f3⟩:=hM5.rs.cells;have hpl:=hM5.rs.ltp;have hlen:l.length≤120:=Nat.le_trans hM5.rs.len hM5.rs.short;have hx5:=hM5.box.lt;have HM5:=Hi hM5;clear hM5;obtain ⟨i,bad,la⟩:=s2;dsimp only at *;have hre:=HRE2.out;unfold rNum at hre
        cases bad with
        | true =>
          rw [if_pos (.inl rfl)] at hre;obtain ⟨rfl,rfl⟩:Ex.mk op 0 [] acc=y∧zdJ ⟨i,true,la⟩=s':=by injection hre with a b;exact ⟨a,b⟩
          clear hre HRE2;go_wp2;go_region
          have HMf:=HM5.out.step ((LeftR.refl HM5.out.rs).fail) HM5.out.le;have HMg:=Hi HMf.drew;have HWN:=Hi (show (Lit.int .i64 0).wf=true from rfl);clear HMf p0 p1 p3 f1 f3;go_upto_region 13 with fail
          obtain ⟨W6,hW6⟩:∃ W,(w5.setCell ⟨rb,2,none⟩ (.bool true)).drew=W:=⟨_,rfl⟩;rw [hW6] at HMg ⊢;clear hW6 f2 p2 HM5;have HM5:=Hi HMg.out;obtain ⟨x0,x1,x2,x3,-,-,-,-⟩:=HM5.out.box.cells;obtain ⟨q0,q1,q2,q3,z0,z1,z2,z3⟩:=XV.cells HM5.out.res;have hx5:=HM5.out.box.lt;have hz5:=XV.lt HM5.out.res;have HPT:=Hi (zak HM5.out.res op 0 [] A' m c');go_wp2
          change bodyPost _ _ _ _ _ (set4 W6 w.heap.size (.int .i64 op) (.int .i64 0) (.string ⟨#[]⟩) (.slice A' m c'))
          obtain ⟨r0,r1,r2,r3,-,-,-,-⟩:=HPT.out.cells;refine bodyPost_ret (v:=exV op 0 [] A' m c') (by simp [results,Tryz.results100,go_sem,exV,r0,r1,r2,r3]) rfl ?_
          exact HM5.out.ret HWF.out HWN.out
        | false =>
        by_cases hi:i<l.length
        case neg =>
          rw [if_pos (.inr (.inl (by show l.length≤i;omega)))] at hre;obtain ⟨rfl,rfl⟩:Ex.mk op 0 [] acc=y∧zdJ ⟨i,false,la⟩=s':=by injection hre with a b;exact ⟨a,b⟩
          have dq:decide (l.length≤i)=true:=by simp;omega
          clear hre HRE2;go_wp2;go_region
          have HMf:=HM5.out.step ((LeftR.refl HM5.out.rs).fail) HM5.out.le;have HMg:=Hi HMf.drew;have HWN:=Hi (show (Lit.int .i64 0).wf=true from rfl);clear HMf p0 p1 p3 f1 f3;go_upto_region 13 with fail
          obtain ⟨W6,hW6⟩:∃ W,(w5.setCell ⟨rb,2,none⟩ (.bool true)).drew=W:=⟨_,rfl⟩;rw [hW6] at HMg ⊢;clear hW6 f2 p2 HM5;have HM5:=Hi HMg.out;obtain ⟨x0,x1,x2,x3,-,-,-,-⟩:=HM5.out.box.cells;obtain ⟨q0,q1,q2,q3,z0,z1,z2,z3⟩:=XV.cells HM5.out.res;have hx5:=HM5.out.box.lt;have hz5:=XV.lt HM5.out.res;have HPT:=Hi (zak HM5.out.res op 0 [] A' m c');go_wp2
          change bodyPost _ _ _ _ _ (set4 W6 w.heap.size (.int .i64 op) (.int .i64 0) (.string ⟨#[]⟩) (.slice A' m c'))
          obtain ⟨r0,r1,r2,r3,-,-,-,-⟩:=HPT.out.cells;refine bodyPost_ret (v:=exV op 0 [] A' m c') (by simp [results,Tryz.results100,go_sem,exV,r0,r1,r2,r3]) rfl ?_
          exact HM5.out.ret HWF.out HWN.out
        have dq:decide (l.length≤i)=false:=by simp;omega
        obtain ⟨b,o,rfl,hb0,hne,hT5,htw⟩:=HM5.out.tok hi;have hb:b<w5.heap.size:=Nat.lt_of_lt_of_le hb0 HM5.out.left.1.size;obtain ⟨t0,t1,t2⟩:=id hT5;generalize tk l i=k at *
        by_cases hk:k.kind=2
        case neg =>
          rw [if_pos (.inr (.inr hk))] at hre;obtain ⟨rfl,rfl⟩:Ex.mk op 0 [] acc=y∧zdJ ⟨i,false,la⟩=s':=by injection hre with a b;exact ⟨a,b⟩
          have hk1:(k.kind != 2)=true:=by simp [hk]
          clear hre HRE2 hk;go_wp2;go_region
          have HMf:=HM5.out.step ((LeftR.refl HM5.out.rs).fail) HM5.out.le;have HMg:=Hi HMf.drew;have HWN:=Hi (show (Lit.int .i64 0).wf=true from rfl);clear HMf p0 p1 p3 f1 f3;go_upto_region 13 with fail
          obtain ⟨W6,hW6⟩:∃ W,(w5.setCell ⟨rb,2,none⟩ (.bool true)).drew=W:=⟨_,rfl⟩;rw [hW6] at HMg ⊢;clear hW6 f2 p2 HM5;have HM5:=Hi HMg.out;obtain ⟨x0,x1,x2,x3,-,-,-,-⟩:=HM5.out.box.cells;obtain ⟨q0,q1,q2,q3,z0,z1,z2,z3⟩:=XV.cells HM5.out.res;have hx5:=HM5.out.box.lt;have hz5:=XV.lt HM5.out.res;have HPT:=Hi (zak HM5.out.res op 0 [] A' m c');go_wp2
          change bodyPost _ _ _ _ _ (set4 W6 w.heap.size (.int .i64 op) (.int .i64 0) (.string ⟨#[]⟩) (.slice A' m c'))
          obtain ⟨r0,r1,r2,r3,-,-,-,-⟩:=HPT.out.cells;refine bodyPost_ret (v:=exV op 0 [] A' m c') (by simp [results,Tryz.results100,go_sem,exV,r0,r1,r2,r3]) rfl ?_
          exact HM5.out.ret HWF.out HWN.out
        have hk1:(k.kind != 2)=false:=by simp [hk]
        rw [if_neg (by rintro (q | q | q);exact Bool.false_ne_true q;exact absurd hi (Nat.not_lt.2 q);exact q hk)] at hre;have HCV:=Hi (fun W=>zdm k.text (htw.num hk).1 (htw.num hk).2.2.2.2 W);obtain ⟨v,hv⟩:∃ v:Int,((decV k.text:Nat):Int)=v:=⟨_,rfl⟩
        have hvr:0≤v∧v≤32767:=by
          have:=(htw.num hk).2.1;have:=(htw.num hk).2.2.1;omega
        rw [hv] at hre HCV;have HWN:=Hi (show (Lit.int .i64 v).wf=true from wf64 (by omega) (by omega));have HRE3:=Hi hre;clear hre HRE2 hv htw hk;obtain ⟨-,y1,-,-,-,g1,-,-⟩:=HM5.out.box.cells;go_wp2;go_region
        go_wp2
        go_region_law ((go_simp;go_at_call 66;refine (HCV.out _).mono ?_;rintro e' w7 ⟨rfl,rfl⟩))
        all_goals
          go_upto_region 15 with fail
          obtain ⟨W7,hW7⟩:∃ W,(w5.setCell ⟨w.heap.size+1,1,none⟩ (.int .i64 v)).drew.drew=W:=⟨_,rfl⟩;have hM7:=(HM5.out.setn v).drew.drew;rw [hW7] at hM7 ⊢;have hT7:=hT5.keep ((hM7.left.1.block b hb0 (fun q=>hne (by injection q))).trans (HM5.out.left.1.block b hb0 (fun q=>hne (by injection q))).symm);clear hW7 p0 p1 p2 p3 f1 f2 f3 y1 g1 t0 t1 t2;obtain ⟨p0,p1,p2,p3,f1,f2,f3⟩:=hM7.rs.cells;obtain ⟨t0,t1,t2⟩:=hT7;obtain ⟨-,y1,-,-,-,-,-,-⟩:=hM7.box.cells;have hpl7:=hM7.rs.ltp;have hx7:=hM7.box.lt;have hb7:b<W7.heap.size:=Nat.lt_of_lt_of_le hb0 hM7.left.1.size;have HM7:=Hi hM7;have hre:=HRE3.out;have hle7:i+1≤l.length:=hi;clear hM7 HM5 HRE3 HCV;dsimp only at p0 p1 p2 p3
          by_cases h500:500<v
          · by_cases hneg:la<0
            · have hif:(if 500<v∧la<0 then k.pos else la)=k.pos:=if_pos ⟨h500,hneg⟩
              rw [hif] at hre
              obtain ⟨rfl,rfl⟩:Ex.mk op v [] acc=y∧zb2 l [41] ⟨i+1,false,k.pos⟩=s':=by injection hre with a b;exact ⟨a,b⟩
              clear hre hif
              go_wp2
              go_region
              go_upto_region 18 with fail
              have HM8:=Hi (HM7.out.step (((LeftR.refl HM7.out.rs).late k.pos).place.drew) hle7)
              have HC8:=Hi (zbE [41] HM8.out.rs)
              have hle8:=zcu (v := [41]) HM8.out.le
              go_wp2_with fail
              refine HC8.out.mono ?_
              rintro e' W9 ⟨rfl,hl9⟩
              have HM5:=Hi (HM8.out.step hl9 hle8)
              clear hl9 HM8 HC8 HM7 p0 p1 p2 p3 f1 f2 f3 y1 t0 t1 t2
              obtain ⟨x0,x1,x2,x3,-,-,-,-⟩:=HM5.out.box.cells
              obtain ⟨q0,q1,q2,q3,z0,z1,z2,z3⟩:=XV.cells HM5.out.res
              have hx5:=HM5.out.box.lt
              have hz5:=XV.lt HM5.out.res
              have HPT:=Hi (zak HM5.out.res op v [] A' m c')
              go_wp2
              change bodyPost _ _ _ _ _ (set4 W9 w.heap.size (.int .i64 op) (.int .i64 v) (.string ⟨#[]⟩) (.slice A' m c'))
              obtain ⟨r0,r1,r2,r3,-,-,-,-⟩:=HPT.out.cells
              refine bodyPost_ret (v:=exV op v [] A' m c') (by simp [results,Tryz.results100,go_sem,exV,r0,r1,r2,r3]) rfl ?_
              exact HM5.out.ret HWF.out HWN.out
            · have hif:(if 500<v∧la<0 then k.pos else la)=la:=if_neg (fun q=>hneg q.2)
              rw [hif] at hre
              obtain ⟨rfl,rfl⟩:Ex.mk op v [] acc=y∧zb2 l [41] ⟨i+1,false,la⟩=s':=by injection hre with a b;exact ⟨a,b⟩
              clear hre hif
              go_upto_region 18 with fail
              have HM8:=Hi (HM7.out.step ((LeftR.refl HM7.out.rs).place) hle7)
              have HC8:=Hi (zbE [41] HM8.out.rs)
              have hle8:=zcu (v := [41]) HM8.out.le
              go_wp2_with fail
              refine HC8.out.mono ?_
              rintro e' W9 ⟨rfl,hl9⟩
              have HM5:=Hi (HM8.out.step hl9 hle8)
              clear hl9 HM8 HC8 HM7 p0 p1 p2 p3 f1 f2 f3 y1 t0 t1 t2
              obtain ⟨x0,x1,x2,x3,-,-,-,-⟩:=HM5.out.box.cells
              obtain ⟨q0,q1,q2,q3,z0,z1,z2,z3⟩:=XV.cells HM5.out.res
              have hx5:=HM5.out.box.lt
              have hz5:=XV.lt HM5.out.res
              have HPT:=Hi (zak HM5.out.res op v [] A' m c')
              go_wp2
              change bodyPost _ _ _ _ _ (set4 W9 w.heap.size (.int .i64 op) (.int .i64 v) (.string ⟨#[]⟩) (.slice A' m c'))
              obtain ⟨r0,r1,r2,r3,-,-,-,-⟩:=HPT.out.cells
              refine bodyPost_ret (v:=exV op v [] A' m c') (by simp [results,Tryz.results100,go_sem,exV,r0,r1,r2,r3]) rfl ?_
              exact HM5.out.ret HWF.out HWN.out
          · have hif:(if 500<v∧la<0 then k.pos else la)=la:=if_neg (fun q=>h500 q.1)
            rw [hif] at hre
            obtain ⟨rfl,rfl⟩:Ex.mk op v [] acc=y∧zb2 l [41] ⟨i+1,false,la⟩=s':=by injection hre with a b;exact ⟨a,b⟩
            clear hre hif
            go_upto_region 18 with fail
            have HM8:=Hi (HM7.out.step ((LeftR.refl HM7.out.rs).place) hle7)
            have HC8:=Hi (zbE [41] HM8.out.rs)
            have hle8:=zcu (v := [41]) HM8.out.le
            go_wp2_with fail
            refine HC8.out.mono ?_
            rintro e' W9 ⟨rfl,hl9⟩
            have HM5:=Hi (HM8.out.step hl9 hle8)
            clear hl9 HM8 HC8 HM7 p0 p1 p2 p3 f1 f2 f3 y1 t0 t1 t2
            obtain ⟨x0,x1,x2,x3,-,-,-,-⟩:=HM5.out.box.cells
            obtain ⟨q0,q1,q2,q3,z0,z1,z2,z3⟩:=XV.cells HM5.out.res
            have hx5:=HM5.out.box.lt
            have hz5:=XV.lt HM5.out.res
            have HPT:=Hi (zak HM5.out.res op v [] A' m c')
            go_wp2
            change bodyPost _ _ _ _ _ (set4 W9 w.heap.size (.int .i64 op) (.int .i64 v) (.string ⟨#[]⟩) (.slice A' m c'))
            obtain ⟨r0,r1,r2,r3,-,-,-,-⟩:=HPT.out.cells
            refine bodyPost_ret (v:=exV op v [] A' m c') (by simp [results,Tryz.results100,go_sem,exV,r0,r1,r2,r3]) rfl ?_
            exact HM5.out.ret HWF.out HWN.out
    | succ k =>
      have hmlt:m<ar:=by omega
      obtain ⟨z,s2,h1,h2⟩:=zbk ha;have HM:=Hi hM;have HRE:=Hi hre;have H2:=Hi h2;clear hM ha hre h2
      by_cases hm0:m=0
      · have he:acc.isEmpty=true:=by rw [List.isEmpty_iff];exact List.length_eq_zero_iff.1 (HM.out.len.trans hm0)
        rw [if_pos he] at h1
        have d0:¬ 0<m:=by omega
        have H1:=Hi h1
        have HM0:=Hi hm0
        clear h1 he hm0
        go_wp2_with fail
        refine (HC3.out _).mono ?_
        rintro e' w9 ⟨rfl,rfl⟩
        have hpl:=HM.out.rlt
        have HNB:=Hi (show ∀ g,(Value.slice A' m c').ownBlock=some g→w.heap.size+2≤g∧g<wr.heap.size from fun g hg=>HM.out.own.lt hg)
        have HMD:=Hi HM.out.drew
        have HXW:=Hi HM.out.box
        have HOD:=Hi HMD.out.own
        have HXD:=Hi HMD.out.box
        have hwr:w.heap.size+2≤wr.drew.heap.size:=HXW.out.lt
        have HPB:=Hi (show rb<w.heap.size+2 by omega)
        have HNE:=Hi (show some (w.heap.size+1)≠some rb by intro h;injection h;omega)
        have HCE:=Hi (HP.out _ _ _ _ HMD.out.rs H1.out)
        have hmar:m≤3:=by omega
        have hacc:=Hi HM.out.len
        have hm1:acc.length+1≤maxLen:=by have:=hacc.out;unfold maxLen;omega
        have hm2:(acc.length+1)*56≤140737488355328:=by have:=hacc.out;omega
        obtain ⟨ti,hti,hzi⟩:=Option.map_eq_some_iff.1 zhy
        obtain ⟨hz0,hz1,hz2⟩:ti.zero=some (.agg #[.int .i64 0,.int .i64 0,.string ⟨#[]⟩,.slice Option.none 0 0])∧ti.size=4∧ti.bytes=56:=by simpa using hzi
        have NB1:some (w.heap.size+1)≠(Value.slice A' m c').ownBlock:=fun q=>by have:=(HNB.out _ q.symm).1;omega
        have NB0:some w.heap.size≠(Value.slice A' m c').ownBlock:=fun q=>by have:=(HNB.out _ q.symm).1;omega
        obtain ⟨x0,x1,x2,x3,z0,z1,z2,z3⟩:=HXW.out.cells
        have HTI:=Hi (And.intro hti (And.intro hz0 (And.intro hz1 hz2)))
        have HM1:=Hi hm1
        have HM2:=Hi hm2
        have HN1:=Hi NB1
        have HN0:=Hi NB0
        clear hzi hti hz0 hz1 hz2 hm1 hm2 NB1 NB0 HC3
        go_wp2
        go_region_law
          (first
           | ((refine zaW (o:=⟨some 26,_,_,_,_,_⟩) (w:=w5.alloc (Obj.cells #[.int .i64 op2,.int .i64 n2,.string ⟨nm2.toArray⟩,.slice A2 ks2.length c2] 48)) _ _ 27 rfl rfl Tryz.underlying27 HTI.out.1 HTI.out.2.1 HTI.out.2.2.1 HTI.out.2.2.2 rfl (by decide) rfl HOW5.out rfl HSR.out (zeN _) HM1.out HM2.out HB5.out ?_;intro v6 w6 hown6 hg6 hv6;have X6:=(HX5.out.grown (World.grownBy_alloc w5 _ Option.none) (Option.some_ne_none _)).grown hg6 HN1.out;have s6:=X6.cells.2.2.2.1;have f6:=X6.cells.2.2.2.2.2.2.2;obtain ⟨A6,c6,hv6e,hnc6,hmx6⟩:=zag hown6;have HX6:=Hi X6;have HOW6:=Hi hown6;have HG6:=Hi hg6;have HV6:=Hi hv6;clear X6 hown6 hg6 hv6;subst hv6e))
           | ((go_simp;go_at_call 43;refine HCE.out.mono ?_;rintro e' w5 ⟨op2,n2,nm2,A2,c2,ks2,rfl,rfl,hc2,hm2,hp2,hr2,hl2,hj2⟩;unfold exV;have X5:=HXD.out.grown hl2.1 HNE.out;have s5:=X5.cells.2.2.2.1;have hlt5:=X5.lt;have f5:=X5.cells.2.2.2.2.2.2.2;have hs5:=hl2.1.size;have O5:=HOD.out.grown hl2.1 HPB.out;obtain ⟨ls,hls,hown5,hvs5,hT5⟩:=O5;have HR2:=Hi hr2;have HL2:=Hi hl2;have HX5:=Hi X5;have HLS:=Hi hls;have HOW5:=Hi (hown5.alloc (Obj.cells #[.int .i64 op2,.int .i64 n2,.string ⟨nm2.toArray⟩,.slice A2 ks2.length c2] 48));have HV5:=Hi hvs5;have HT5:=Hi hT5;have src5:Src (w5.alloc (Obj.cells #[.int .i64 op2,.int .i64 n2,.string ⟨nm2.toArray⟩,.slice A2 ks2.length c2] 48)) 4 (some ⟨w5.heap.size,0,none⟩) 1 (XL.cells ⟨op2,n2,nm2,A2,ks2.length,c2⟩):=zaL w5 _ _ 4 1 rfl;have HSR:=Hi src5;have hb5:w.heap.size+2≤(w5.alloc (Obj.cells #[.int .i64 op2,.int .i64 n2,.string ⟨nm2.toArray⟩,.slice A2 ks2.length c2] 48)).heap.size:=Nat.le_trans (Nat.le_trans hwr hs5) (zaa w5 _).size;have HB5:=Hi hb5;clear hr2 hl2 X5 hls hown5 hvs5 hT5 src5 hb5)))
        all_goals
          go_wp2
          go_roundg k
          case measure=>omega
          case rel =>
            have hml:=hacc.out
            rw [hml]
            have hs6:=HG6.out.size
            simp only [World.size_alloc] at hs6
            have hs5':wr.heap.size≤w5.heap.size:=hs5
            have hwr':w.heap.size+2≤wr.heap.size:=hwr
            have kb:=zab (S:=fun b=>b<w5.heap.size) (zaa w5 (Obj.cells #[.int .i64 op2,.int .i64 n2,.string ⟨nm2.toArray⟩,.slice A2 ks2.length c2] 48)) (fun b hb=>hb)
            have hO6:=XOwn.push (T:=fun b=>T b∨New wr.drew w5 b) (xs:=acc) (l:=⟨op2,n2,nm2,A2,ks2.length,c2⟩) (y := .mk op2 n2 nm2 ks2) HLS.out
              (fun k l x hl hx=>ExV.mono _ _ _ _ _ _ (fun b hb => .inl hb) (kb.mono fun b hb=>(HT5.out b hb).2.1) (HV5.out k l x hl hx))
              (fun b hb=>by
                rcases hb with hb | hb
                · have:=HT5.out b hb
                  exact ⟨this.1,by simp only [World.size_alloc];omega,this.2.2⟩
                · have h1:wr.heap.size≤b:=hb.1
                  have h2:=hb.2
                  refine ⟨by omega,by simp only [World.size_alloc];omega,fun q => ?_⟩
                  have:=(HNB.out _ q.symm).2
                  omega)
              (ExV.mono _ _ _ _ _ _ (fun b hb => .inr hb) (kb.mono fun b hb=>hb.2) (ExV.mk hc2 hm2 hp2 HR2.out)) HOW6.out HG6.out HV6.out
            have hb1:∀ b,(Value.slice A' m c').ownBlock=some b→w.heap.size≤b:=fun b q=>by have:=(HNB.out _ q).1;omega
            refine ⟨acc++[.mk op2 n2 nm2 ks2],m+1,s2,A6,c6,(fun b=>T b∨New wr.drew w5 b),ks,s3,H2.out,HRE.out,by omega,by go_num,by simp [hml],HX6.out.set3 A6 (m+1) c6,?_,?_,HM.out.start,?_,hj2⟩
            · have:=hO6.grown (zaf w6 (w.heap.size+1) 3 (.slice A6 (m+1) c6)) (by omega)
              rw [hml] at this
              exact this
            · have z1:=HMD.out.res.leftR HL2.out (by omega)
              have z2:=XV.grown (XV.grown z1 (World.grownBy_alloc w5 _ Option.none) (by simp)) HG6.out HN0.out
              exact XV.other z2 _ (by omega)
            · exact ((((HMD.out.left.trans HL2.out).alloc _).own HG6.out hb1 hpl).own (zaf w6 (w.heap.size+1) 3 _) (fun b q=>by injection q;omega) hpl)
      · have he:¬ acc.isEmpty=true:=by
          rw [List.isEmpty_iff];intro q;have:=HM.out.len;rw [q] at this;exact hm0 this.symm
        rw [if_neg he] at h1;have d0:0<m:=by omega
        have H1:=Hi h1;have HC5:=Hi (zbE [44] HM.out.rs);have hle5:=zcu (v := [44]) HM.out.le;clear h1 he hm0;go_wp2_with fail
        refine (HC3.out _).mono ?_
        rintro e' w9 ⟨rfl,rfl⟩
        go_wp2_with fail
        refine HC5.out.mono ?_
        rintro e' w2 ⟨rfl,hl2⟩
        have HM:=Hi (HM.out.step hl2 hle5);clear hl2 HC5;have hpl:=HM.out.rlt;have HNB:=Hi (show ∀ g,(Value.slice A' m c').ownBlock=some g→w.heap.size+2≤g∧g<w2.heap.size from fun g hg=>HM.out.own.lt hg);have HMD:=Hi HM.out.drew;have HXW:=Hi HM.out.box;have HOD:=Hi HMD.out.own;have HXD:=Hi HMD.out.box;have hw2:w.heap.size+2≤w2.drew.heap.size:=HXW.out.lt;have HPB:=Hi (show rb<w.heap.size+2 by omega);have HNE:=Hi (show some (w.heap.size+1)≠some rb by intro h;injection h;omega);have HCE:=Hi (HP.out _ _ _ _ HMD.out.rs H1.out);have hmar:m≤3:=by omega
        have hacc:=Hi HM.out.len;have hm1:acc.length+1≤maxLen:=by have:=hacc.out;unfold maxLen;omega
        have hm2:(acc.length+1)*56≤140737488355328:=by have:=hacc.out;omega
        obtain ⟨ti,hti,hzi⟩:=Option.map_eq_some_iff.1 zhy;obtain ⟨hz0,hz1,hz2⟩:ti.zero=some (.agg #[.int .i64 0,.int .i64 0,.string ⟨#[]⟩,.slice Option.none 0 0])∧ti.size=4∧ti.bytes=56:=by simpa using hzi
        have NB1:some (w.heap.size+1)≠(Value.slice A' m c').ownBlock:=fun q=>by have:=(HNB.out _ q.symm).1;omega
        have NB0:some w.heap.size≠(Value.slice A' m c').ownBlock:=fun q=>by have:=(HNB.out _ q.symm).1;omega
        obtain ⟨x0,x1,x2,x3,z0,z1,z2,z3⟩:=HXW.out.cells;have HTI:=Hi (And.intro hti (And.intro hz0 (And.intro hz1 hz2)));have HM1:=Hi hm1;have HM2:=Hi hm2;have HN1:=Hi NB1;have HN0:=Hi NB0;clear hzi hti hz0 hz1 hz2 hm1 hm2 NB1 NB0 HC3;go_wp2
        go_region_law
          (first
           | ((refine zaW (o:=⟨some 26,_,_,_,_,_⟩) (w:=w5.alloc (Obj.cells #[.int .i64 op2,.int .i64 n2,.string ⟨nm2.toArray⟩,.slice A2 ks2.length c2] 48)) _ _ 27 rfl rfl Tryz.underlying27 HTI.out.1 HTI.out.2.1 HTI.out.2.2.1 HTI.out.2.2.2 rfl (by decide) rfl HOW5.out rfl HSR.out (zeN _) HM1.out HM2.out HB5.out ?_;intro v6 w6 hown6 hg6 hv6;have X6:=(HX5.out.grown (World.grownBy_alloc w5 _ Option.none) (Option.some_ne_none _)).grown hg6 HN1.out;have s6:=X6.cells.2.2.2.1;have f6:=X6.cells.2.2.2.2.2.2.2;obtain ⟨A6,c6,hv6e,hnc6,hmx6⟩:=zag hown6;have HX6:=Hi X6;have HOW6:=Hi hown6;have HG6:=Hi hg6;have HV6:=Hi hv6;clear X6 hown6 hg6 hv6;subst hv6e))
           | ((go_simp;go_at_call 43;refine HCE.out.mono ?_;rintro e' w5 ⟨op2,n2,nm2,A2,c2,ks2,rfl,rfl,hc2,hm2,hp2,hr2,hl2,hj2⟩;unfold exV;have X5:=HXD.out.grown hl2.1 HNE.out;have s5:=X5.cells.2.2.2.1;have hlt5:=X5.lt;have f5:=X5.cells.2.2.2.2.2.2.2;have hs5:=hl2.1.size;have O5:=HOD.out.grown hl2.1 HPB.out;obtain ⟨ls,hls,hown5,hvs5,hT5⟩:=O5;have HR2:=Hi hr2;have HL2:=Hi hl2;have HX5:=Hi X5;have HLS:=Hi hls;have HOW5:=Hi (hown5.alloc (Obj.cells #[.int .i64 op2,.int .i64 n2,.string ⟨nm2.toArray⟩,.slice A2 ks2.length c2] 48));have HV5:=Hi hvs5;have HT5:=Hi hT5;have src5:Src (w5.alloc (Obj.cells #[.int .i64 op2,.int .i64 n2,.string ⟨nm2.toArray⟩,.slice A2 ks2.length c2] 48)) 4 (some ⟨w5.heap.size,0,none⟩) 1 (XL.cells ⟨op2,n2,nm2,A2,ks2.length,c2⟩):=zaL w5 _ _ 4 1 rfl;have HSR:=Hi src5;have hb5:w.heap.size+2≤(w5.alloc (Obj.cells #[.int .i64 op2,.int .i64 n2,.string ⟨nm2.toArray⟩,.slice A2 ks2.length c2] 48)).heap.size:=Nat.le_trans (Nat.le_trans hw2 hs5) (zaa w5 _).size;have HB5:=Hi hb5;clear hr2 hl2 X5 hls hown5 hvs5 hT5 src5 hb5)))
        all_goals
          go_wp2;go_roundg k
          case measure=>omega
          case rel =>
            have hml:=hacc.out;rw [hml];have hs6:=HG6.out.size;simp only [World.size_alloc] at hs6;have hs5':w2.heap.size≤w5.heap.size:=hs5;have hw2':w.heap.size+2≤w2.heap.size:=hw2;have kb:=zab (S:=fun b=>b<w5.heap.size) (zaa w5 (Obj.cells #[.int .i64 op2,.int .i64 n2,.string ⟨nm2.toArray⟩,.slice A2 ks2.length c2] 48)) (fun b hb=>hb)
            have hO6:=XOwn.push (T:=fun b=>T b∨New w2.drew w5 b) (xs:=acc) (l:=⟨op2,n2,nm2,A2,ks2.length,c2⟩) (y := .mk op2 n2 nm2 ks2) HLS.out
              (fun k l x hl hx=>ExV.mono _ _ _ _ _ _ (fun b hb => .inl hb) (kb.mono fun b hb=>(HT5.out b hb).2.1) (HV5.out k l x hl hx))
              (fun b hb=>by
                rcases hb with hb | hb
                · have:=HT5.out b hb
                  exact ⟨this.1,by simp only [World.size_alloc];omega,this.2.2⟩
                · have h1:w2.heap.size≤b:=hb.1
                  have h2:=hb.2
                  refine ⟨by omega,by simp only [World.size_alloc];omega,fun q => ?_⟩
                  have:=(HNB.out _ q.symm).2
                  omega)
              (ExV.mono _ _ _ _ _ _ (fun b hb => .inr hb) (kb.mono fun b hb=>hb.2) (ExV.mk hc2 hm2 hp2 HR2.out)) HOW6.out HG6.out HV6.out
            have hb1:∀ b,(Value.slice A' m c').ownBlock=some b→w.heap.size≤b:=fun b q=>by have:=(HNB.out _ q).1;omega
            refine ⟨acc++[.mk op2 n2 nm2 ks2],m+1,s2,A6,c6,(fun b=>T b∨New w2.drew w5 b),ks,s3,H2.out,HRE.out,by omega,by go_num,by simp [hml],HX6.out.set3 A6 (m+1) c6,?_,?_,HM.out.start,?_,hj2⟩
            · have:=hO6.grown (zaf w6 (w.heap.size+1) 3 (.slice A6 (m+1) c6)) (by omega)
              rw [hml] at this
              exact this
            · have z1:=HMD.out.res.leftR HL2.out (by omega)
              have z2:=XV.grown (XV.grown z1 (World.grownBy_alloc w5 _ Option.none) (by simp)) HG6.out HN0.out
              exact XV.other z2 _ (by omega)
            · exact ((((HMD.out.left.trans HL2.out).alloc _).own HG6.out hb1 hpl).own (zaf w6 (w.heap.size+1) 3 _) (fun b q=>by injection q;omega) hpl)
end Go.Proofs.YtcikenlflcofbaaGreatDoor
