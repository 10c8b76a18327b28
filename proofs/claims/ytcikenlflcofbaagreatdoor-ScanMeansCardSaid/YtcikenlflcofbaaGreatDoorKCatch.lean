/-
  The validity of an expression: node, valid and Valid of the program.
-/
import Derived.Test.YtcikenlflcofbaaGreatDoorM1
import Derived.Test.YtcikenlflcofbaaGreatDoorToks
import Derived.Deep.QuietTactic
import Derived.BigQuiet
import Derived.Defers
import Derived.Recover
set_option maxRecDepth 100000
set_option maxHeartbeats 8000000
namespace Go.Proofs.YtcikenlflcofbaaGreatDoor
open Go.RowKit
theorem zaB {P:Program} {f:FuncId} {args:Array Value} {w:World} {k:Nat} {n:Int} (h:Calls P f args (w.drewN k) (zdI n (w.drewN k))):Calls P f args (w.drewN k) fun e w''=>e = .returned (.int .i64 n)∧∃ m,w''=w.drewN m:=h.mono fun _ _ ⟨a,b⟩=>⟨a,k,b.symm⟩
theorem zfV {op n:Int} {nm:List UInt8} {k:Nat} (h:¬ (k:Int)=zav op):za7 op n nm k=false:=by
  unfold za7;simp [h]
theorem zeE {n:Int} {nm:List UInt8} {k:Nat} (h:(k:Int)=zav 3):za7 3 n nm k=(decide (n=0) && zbj nm):=by
  unfold za7;simp [h]
theorem zd9 {op n:Int} {nm:List UInt8} {k:Nat} (h:(k:Int)=zav op) (h3:op≠3):za7 op n nm k=(nm.isEmpty && decide (0≤n∧n≤zcM op)):=by
  unfold za7;simp [h,h3]
theorem zj5 (op n:Int) (nm:List UInt8) (A:Option Addr) (k c:Nat) (w:World) (hp:ExP op n nm):Calls Tryz.prog 108 #[exV op n nm A k c] w (RetB (za7 op n nm k) w):=by
  have C1:=fun W=>zfq op W
  have C2:=fun W=>zdS nm W hp.2.2
  have hbx:=zaa w (Obj.cells #[.int .i64 op,.int .i64 n,.string ⟨nm.toArray⟩,.slice A k c] 48);have HBX:=Hi (zao hbx 1);have X:=XV.new w op n nm A k c;obtain ⟨x0,x1,x2,x3,-,-,-,-⟩:=X.cells;clear hp hbx X;unfold exV
  by_cases hk:(k:Int)=zav op
  case neg =>
    have HN:=Hi (zfV (n:=n) (nm:=nm) hk);have d1:((k:Int) != zav op)=true:=by simp [hk]
    have HC1:=Hi C1;clear hk C1 C2;generalize zav op=ar at *;go_enter Tryz.func108,Tryz.ntmps108;go_wp2
    go_quiet ((go_at_call 115;exact zaB (HC1.out _)))
    go_wp2;go_ret
    exact ⟨zae HN.out.symm,zao (zaa w _) _⟩
  have d1:((k:Int) != zav op)=false:=by simp [hk]
  by_cases h3:op=3
  · subst h3
    have HN:=Hi (zeE (n:=n) (nm:=nm) hk)
    have HC1:=Hi C1
    clear hk C1
    generalize zav 3=ar at *
    generalize zbj nm=nb at *
    have HC2:=Hi C2
    clear C2
    by_cases h0:n=0
    · subst h0
      go_enter Tryz.func108,Tryz.ntmps108
      go_wp2
      go_quiet ((go_at_call 115;exact zaB (HC1.out _)))
      go_wp2_with fail
      refine (HC2.out _).mono ?_
      rintro e w9 ⟨rfl,rfl⟩
      go_wp2
      go_ret
      exact ⟨zae (by rw [HN.out];simp),zao (zaa w _) _⟩
    · have d2:(n == 0)=false:=by simp [h0]
      have HN2:=Hi (show za7 3 n nm k=false by rw [HN.out];simp [h0])
      clear h0
      go_enter Tryz.func108,Tryz.ntmps108
      go_wp2
      go_quiet ((go_at_call 115;exact zaB (HC1.out _)))
      go_wp2
      go_ret
      exact ⟨zae HN2.out.symm,zao (zaa w _) _⟩
  have hpl:=zd9 (n:=n) (nm:=nm) hk h3;have d3:(op == 3)=false:=by simp [h3]
  have HC1:=Hi C1;clear hk C1 C2;obtain ⟨mo,hmo⟩:∃ mo,zcM op=mo:=⟨_,rfl⟩;rw [hmo] at hpl
  have hcase:(op=1∧mo=1)∨(op=2∧mo=32767)∨(op=19∧mo=500)∨(op=20∧mo=500)∨(op≠1∧op≠2∧op≠19∧op≠20∧mo=0):=by
    unfold zcM at hmo
    split at hmo
    · omega
    split at hmo
    · omega
    split at hmo
    · omega
    · omega
  clear hmo
  have hres:(nm.isEmpty=false∧za7 op n nm k=false)∨(nm.isEmpty=true∧decide (0≤n)=false∧za7 op n nm k=false)∨(nm.isEmpty=true∧decide (0≤n)=true∧decide (n≤mo)=false∧za7 op n nm k=false)∨(nm.isEmpty=true∧decide (0≤n)=true∧decide (n≤mo)=true∧za7 op n nm k=true):=by
    rw [hpl]
    cases nm.isEmpty
    · exact .inl ⟨rfl,rfl⟩
    · by_cases h1:0≤n
      · by_cases h2:n≤mo
        · exact .inr (.inr (.inr ⟨rfl,by simp [h1],by simp [h2],by simp [h1,h2]⟩))
        · exact .inr (.inr (.inl ⟨rfl,by simp [h1],by simp [h2],by simp [h2]⟩))
      · exact .inr (.inl ⟨rfl,by simp [h1],by simp [h1]⟩)
  clear hpl;generalize zav op=ar at *;obtain ⟨res,hrs⟩:∃ res,za7 op n nm k=res:=⟨_,rfl⟩;rw [hrs] at hres ⊢;clear hrs h3
  rcases hcase with ⟨rfl,rfl⟩ | ⟨rfl,rfl⟩ | ⟨rfl,rfl⟩ | ⟨rfl,rfl⟩ | ⟨o1,o2,o3,o4,rfl⟩
  case' inr.inr.inr.inr =>
    have e1:(op == 1)=false:=by simp [o1]
    have e2:(op == 2)=false:=by simp [o2]
    have e3:(op == 19)=false:=by simp [o3]
    have e4:(op == 20)=false:=by simp [o4]
    clear o1 o2 o3 o4
  all_goals
    rcases hres with ⟨r1,rfl⟩ | ⟨r1,r2,rfl⟩ | ⟨r1,r2,r3,rfl⟩ | ⟨r1,r2,r3,rfl⟩
    all_goals
      go_enter Tryz.func108,Tryz.ntmps108;go_wp2
      go_quiet ((go_at_call 115;exact zaB (HC1.out _)))
      go_wp2;go_ret
      exact ⟨rfl,zao (zaa w _) _⟩
end Go.Proofs.YtcikenlflcofbaaGreatDoor
namespace Go.Proofs.YtcikenlflcofbaaGreatDoor
open Go.RowKit
def IntBox (w:World) (b:Nat) (n:Int):Prop:=w.heap[b]? = some (.cells #[.int .i64 n] 3 (0,0))
theorem IntBox.lt {w:World} {b:Nat} {n:Int} (h:IntBox w b n):b<w.heap.size:=(Array.getElem?_eq_some_iff.1 h).1
theorem IntBox.cells {w:World} {b:Nat} {n:Int} (h:IntBox w b n):w.cell? ⟨b,0,none⟩=some (.int .i64 n)∧w.frozen? ⟨b,0,none⟩=false:=by
  have hh:w.heap[b]? = some (.cells #[.int .i64 n] 3 (0,0)):=h;exact ⟨by simp [World.cell?,hh],Lib.frozen_of_heap hh 0⟩
theorem IntBox.grown {w w':World} {row:Option Nat} {b:Nat} {n:Int} (h:IntBox w b n) (hg:w.grownBy w' row) (hb:some b≠row):IntBox w' b n:=(hg.block b h.lt hb).trans h
theorem IntBox.set {w:World} {b:Nat} {n:Int} (h:IntBox w b n) (n':Int):IntBox (w.setCell ⟨b,0,none⟩ (.int .i64 n')) b n':=by
  have:=heap_setCell_same w b 0 _ _ (.int .i64 n') h;unfold IntBox;rw [this]
  rfl
def zkO (lb:Nat) (r:Option Nat) (w:World) (e:Ending) (w':World):Prop:=e = .returned (.bool r.isSome)∧w.grownBy w' (some lb)∧∀ l,r=some l→IntBox w' lb (l:Int)
theorem vL_le {f:Nat→Ex→Option Nat} (hf:∀ a x b,f a x=some b→b≤a):∀ (ks:List Ex) (a l:Nat),vL f a ks=some l→l≤a
  | [],a,l,h=>by cases h;exact Nat.le_refl _
  | k::ks,a,l,h=>by
    unfold vL at h
    split at h
    · cases h
    · rename_i m hm
      have:=hf _ _ _ hm
      have:=vL_le hf ks m l h
      omega
theorem vG_le:∀ (d a:Nat) (x:Ex) (l:Nat),vG d a x=some l→l≤a
  | 0,_,_,_,h=>by cases h
  | d+1,a,.mk op n nm ks,l,h=>by
    unfold vG at h
    split at h
    · cases h
    · have:=vL_le (fun a x b=>vG_le d a x b) ks _ l h
      omega
def VaR (w0:World) (lb:Nat) (d:Nat) (ks:List Ex) (total:Option Nat) (g:Nat) (v:Value) (wr:World):Prop:=
  ∃ k l:Nat,vL (vG d) l (ks.drop k)=total∧l≤1000∧IntBox wr lb (l:Int)∧w0.grownBy wr (some lb)∧v = .int .i64 (k:Int)∧k≤ks.length∧ks.length-k<g
theorem zgi:∀ (d:Nat),d≤1000→∀ (left:Nat) (op n:Int) (nm:List UInt8) (A:Option Addr) (c:Nat) (ks:List Ex) (w:World) (lb:Nat),left≤1000→IntBox w lb (left:Int)→ks.length≤c→c≤maxLen→ExP op n nm→Rw ExV 4 w (fun b=>b<w.heap.size∧b≠lb) A ks.length ks →
    Calls Tryz.prog 95 #[exV op n nm A ks.length c,.int .i64 (d:Int),.pointer (some ⟨lb,0,none⟩)] w (zkO lb (vG d left (.mk op n nm ks)) w)
  | 0,_,left,op,n,nm,A,c,ks,w,lb,_,hi,_,_,_,_=>by
    have hg:w.grownBy (w.alloc (Obj.cells #[.int .i64 op,.int .i64 n,.string ⟨nm.toArray⟩,.slice A ks.length c] 48)) (some lb):=World.grownBy_alloc w _ _;have HG:=Hi hg;clear hi hg;unfold exV
    show Calls _ _ #[_,.int .i64 0,_] _ _
    go_enter Tryz.func95,Tryz.ntmps95;go_wp2;go_ret
    exact ⟨rfl,HG.out,fun l h=>by cases h⟩
  | d+1,hd,left,op,n,nm,A,c,ks,w,lb,hleft,hi,hc,hm,hp,hr=>by
    have ih:=fun left op n nm A c ks w lb=>zgi d (by omega) left op n nm A c ks w lb
    have hg0:=World.grownBy_alloc w (Obj.cells #[.int .i64 op,.int .i64 n,.string ⟨nm.toArray⟩,.slice A ks.length c] 48) (some lb);have hlb:=hi.lt;obtain ⟨i0,i1⟩:=hi.cells;have C1:=zj5 op n nm A ks.length c (w.alloc (Obj.cells #[.int .i64 op,.int .i64 n,.string ⟨nm.toArray⟩,.slice A ks.length c] 48)) hp;have hI1:=hi.grown (World.grownBy_alloc w (Obj.cells #[.int .i64 op,.int .i64 n,.string ⟨nm.toArray⟩,.slice A ks.length c] 48) Option.none) (by simp);have hX:=XV.new w op n nm A ks.length c;obtain ⟨D,hD⟩:∃ D:Int,(d:Int)=D-1:=⟨(d:Int)+1,by omega⟩;have hD1:((d+1:Nat):Int)=D:=by omega
    have hDb:1≤D∧D≤1001:=by omega
    obtain ⟨hDa,hDc⟩:=hDb;have hDz:(D == 0)=false:=by simp;omega
    rw [hD1];rw [hD] at ih;have HIH:=Hi ih;have HR:=Hi hr;have HG0:=Hi hg0;have HI1:=Hi hI1;have HX:=Hi hX;have hv:vG (d+1) left (.mk op n nm ks)=if left=0∨za7 op n nm ks.length=false then none else vL (vG d) (left-1) ks:=rfl
    have HV:=Hi hv;clear ih hr hg0 hI1 hX hi hD hD1 hv;unfold maxLen at hm;have hkl:ks.length≤9223372036854775807:=by omega
    unfold exV at C1 ⊢;generalize hNB:za7 op n nm ks.length=nb at *;clear hNB;have HC1:=Hi C1;clear C1
    by_cases h0:left=0
    · have dz:((left:Int) == 0)=true:=by simp [h0]
      have HE:=Hi (show vG (d+1) left (.mk op n nm ks)=none by rw [HV.out,if_pos (.inl h0)])
      clear h0 HV
      generalize vG (d+1) left (.mk op n nm ks)=res at *
      go_enter Tryz.func95,Tryz.ntmps95
      go_wp2
      go_ret
      rw [HE.out]
      exact ⟨rfl,HG0.out,fun l h=>by cases h⟩
    have dz:((left:Int) == 0)=false:=by simp [h0]
    cases nb with
    | false =>
      have HE:=Hi (show vG (d+1) left (.mk op n nm ks)=none by rw [HV.out,if_pos (.inr rfl)]);clear h0 HV;generalize vG (d+1) left (.mk op n nm ks)=res at *;go_enter Tryz.func95,Tryz.ntmps95;go_wp2_with fail
      refine HC1.out.mono ?_
      rintro e w1 ⟨rfl,hb1⟩
      go_wp2;go_ret
      rw [HE.out];exact ⟨rfl,HG0.out.trans (zap hb1),fun l h=>by cases h⟩
    | true =>
      have HE:=Hi (show vL (vG d) (left-1) ks=vG (d+1) left (.mk op n nm ks) by rw [HV.out,if_neg (by simp [h0])]);clear HV;generalize vG (d+1) left (.mk op n nm ks)=res at *;go_enter Tryz.func95,Tryz.ntmps95;go_wp2_with fail
      refine HC1.out.mono ?_
      rintro e w1 ⟨rfl,hb1⟩
      have hs1:=hb1.size;simp only [World.size_alloc] at hs1;have I1:=HI1.out.grown (zap (row:=Option.none) hb1) (by simp);have X1:=HX.out.grown (zap (row:=Option.none) hb1) (by simp);obtain ⟨j0,j1⟩:=I1.cells;obtain ⟨x0,x1,x2,x3,-,-,-,-⟩:=X1.cells;have hbl:¬ w.heap.size=lb:=by omega
      have hG1:=(HG0.out.trans (zap (row:=some lb) hb1)).trans (zaf w1 lb 0 (.int .i64 ((left:Int)-1)));have HG1:=Hi hG1;have HI2:=Hi (I1.set ((left:Int)-1));clear hb1 I1 X1 hG1 HC1 HI1 HX HG0;have hla:(1:Int)≤(left:Int):=by omega
      go_wp2_with fail
      go_loopg [30] (ks.length+1) (fun g v wr=>VaR w lb d ks res g v wr)
      case atStart =>
        refine ⟨0,left-1,by rw [List.drop_zero];exact HE.out,by omega,?_,HG1.out,rfl,Nat.zero_le _,by omega⟩
        have:=HI2.out;rw [show (((left-1:Nat)):Int)=(left:Int)-1 by omega];exact this
      case round =>
        obtain ⟨k,l,hvl,hl,hib,hg,rfl,hk,hgk⟩:=hrel;have hszw:=hg.size
        by_cases hlt:k<ks.length
        case neg =>
          obtain rfl:k=ks.length:=by omega
          rw [List.drop_length] at hvl;have HVL:=Hi (show some l=res from hvl);have HIB:=Hi hib;have HG:=Hi hg;clear hvl hib hg HE HG1 HI2 hlt;go_wp2;go_ret
          rw [← HVL.out];exact ⟨rfl,HG.out,fun l' h=>by cases h;exact HIB.out⟩
        have hrw:=HR.out.mono ExV.mono (S':=fun b=>b<wr.heap.size∧b≠lb) (fun b hb=>⟨by omega,hb.2⟩) (zah hg fun b hb=>⟨hb.1,fun q=>hb.2 (by injection q)⟩);obtain ⟨b,o,op2,n2,nm2,A2,c2,ys,hA,hSb,hky,hc2,hm2,hp2,hr2,hxb⟩:=exAt hrw hlt;subst hA;obtain ⟨y0,y1,y2,y3⟩:=hxb;rw [List.drop_eq_getElem_cons hlt] at hvl
        have hget:ks[k] = .mk op2 n2 nm2 ys:=by
          rw [List.getElem?_eq_getElem hlt] at hky;injection hky
        rw [hget] at hvl;unfold vL at hvl;have hibA:=hib.grown (World.grownBy_alloc wr (Obj.cells #[.int .i64 op2,.int .i64 n2,.string ⟨nm2.toArray⟩,.slice A2 ys.length c2] 48) Option.none) (by simp)
        have C2:=HIH.out l op2 n2 nm2 A2 c2 ys (wr.alloc (Obj.cells #[.int .i64 op2,.int .i64 n2,.string ⟨nm2.toArray⟩,.slice A2 ys.length c2] 48)) lb hl hibA hc2 hm2 hp2
          (hr2.mono ExV.mono (fun b hb=>⟨by have:=hb.1;simp only [World.size_alloc];omega,hb.2⟩) (zab (zaa wr _) fun b hb=>hb.1))
        have hle:=fun q=>vG_le d l (.mk op2 n2 nm2 ys) q
        unfold exV at C2;obtain ⟨r2,hr2e⟩:∃ r2,vG d l (.mk op2 n2 nm2 ys)=r2:=⟨_,rfl⟩;rw [hr2e] at C2 hvl hle;have HC2:=Hi C2;have HVL:=Hi hvl;have HLE:=Hi hle;have HG:=Hi (hg.trans (World.grownBy_alloc wr (Obj.cells #[.int .i64 op2,.int .i64 n2,.string ⟨nm2.toArray⟩,.slice A2 ys.length c2] 48) (some lb)));have hbl':b<wr.heap.size:=hSb.1;clear hrw hky hr2 hget hvl hib hg hibA C2 hle hr2e hSb HE HG1 HI2 hp2;unfold maxLen at hm2
        cases r2 with
        | none =>
          go_wp2_with fail
          refine HC2.out.mono ?_
          rintro e w2 ⟨rfl,hg2,-⟩
          go_wp2;go_ret
          rw [← HVL.out];exact ⟨rfl,HG.out.trans hg2,fun l' h=>by cases h⟩
        | some l2 =>
          go_wp2_with fail
          refine HC2.out.mono ?_
          rintro e w2 ⟨rfl,hg2,hi2⟩
          have HI3:=Hi (hi2 l2 rfl);have HG3:=Hi (HG.out.trans hg2);clear hg2 hi2;go_wp2;go_roundg (ks.length-k)
          case measure=>omega
          case rel=>exact ⟨k+1,l2,HVL.out,by have:=HLE.out l2 rfl;omega,HI3.out,HG3.out,by go_num,by omega,by omega⟩
theorem zfp (op n:Int) (nm:List UInt8) (A:Option Addr) (c:Nat) (ks:List Ex) (w:World) (hc:ks.length≤c) (hm:c≤maxLen) (hp:ExP op n nm) (hr:Rw ExV 4 w (fun b=>b<w.heap.size) A ks.length ks) :
    Calls Tryz.prog 79 #[exV op n nm A ks.length c] w (RetB (zaR (.mk op n nm ks)) w):=by
  have hb1:=zaa w (Obj.cells #[.int .i64 op,.int .i64 n,.string ⟨nm.toArray⟩,.slice A ks.length c] 48);have hb2:=zaa (w.alloc (Obj.cells #[.int .i64 op,.int .i64 n,.string ⟨nm.toArray⟩,.slice A ks.length c] 48)) (Obj.cells #[.int .i64 60] 3);have hb:=zac hb1 hb2 hb1.size
  have hi:IntBox ((w.alloc (Obj.cells #[.int .i64 op,.int .i64 n,.string ⟨nm.toArray⟩,.slice A ks.length c] 48)).alloc (Obj.cells #[.int .i64 60] 3)) (w.heap.size+1) ((60:Nat):Int):=by
    have:=heap_alloc_new (w.alloc (Obj.cells #[.int .i64 op,.int .i64 n,.string ⟨nm.toArray⟩,.slice A ks.length c] 48)) (Obj.cells #[.int .i64 60] 3);rw [World.size_alloc] at this;exact this
  have C:=zgi 16 (by omega) 60 op n nm A c ks _ (w.heap.size+1) (by omega) hi hc hm hp (hr.mono ExV.mono (fun b hb=>⟨by simp only [World.size_alloc];omega,by omega⟩) (zab hb fun b hb=>hb));have e:(vG 16 60 (.mk op n nm ks)).isSome=zaR (.mk op n nm ks):=rfl;unfold zkO at C;rw [e] at C;have HC:=Hi C;clear C hi hr hp e;unfold exV at HC ⊢;generalize zaR (.mk op n nm ks)=vb at *;go_enter Tryz.func79,Tryz.ntmps79;go_wp2_with fail
  refine HC.out.mono ?_
  rintro e w1 ⟨rfl,hg,-⟩
  go_wp2;go_ret
  refine ⟨rfl,hg.os.trans hb.os,hg.tape.trans hb.tape,hg.output.trans hb.output,Nat.le_trans hb.size hg.size,fun b hlt=>(hg.block b (Nat.lt_of_lt_of_le hlt hb.size) (fun q=>by injection q;omega)).trans (hb.block b hlt)⟩
end Go.Proofs.YtcikenlflcofbaaGreatDoor
set_option maxRecDepth 100000
set_option maxHeartbeats 8000000
namespace Go.Proofs.YtcikenlflcofbaaGreatDoor
open Go.RowKit
structure ResBox (w:World) (g:Nat) (op n:Int) (nm:List UInt8) (A:Option Addr) (k c:Nat) (a er:Int):Prop where
  x:XV w g op n nm A k c
  p:IntBox w (g+1) a
  e:w.heap[g+2]? = some (.cells #[.int .i64 er] 28 (0,0))
theorem ResBox.cells {w:World} {g:Nat} {op n:Int} {nm:List UInt8} {A:Option Addr} {k c:Nat} {a er:Int} (h:ResBox w g op n nm A k c a er) :
    (w.cell? ⟨g,0,none⟩=some (.int .i64 op)∧w.cell? ⟨g,1,none⟩=some (.int .i64 n)∧w.cell? ⟨g,2,none⟩=some (.string ⟨nm.toArray⟩)∧w.cell? ⟨g,3,none⟩=some (.slice A k c) ∧
    w.frozen? ⟨g,0,none⟩=false∧w.frozen? ⟨g,1,none⟩=false∧w.frozen? ⟨g,2,none⟩=false∧w.frozen? ⟨g,3,none⟩=false) ∧
    (w.cell? ⟨g+1,0,none⟩=some (.int .i64 a)∧w.frozen? ⟨g+1,0,none⟩=false)∧(w.cell? ⟨g+2,0,none⟩=some (.int .i64 er)∧w.frozen? ⟨g+2,0,none⟩=false):=
  ⟨h.x.cells,h.p.cells,⟨by have:=h.e;simp [World.cell?,this],Lib.frozen_of_heap h.e 0⟩⟩
theorem ResBox.lt {w:World} {g:Nat} {op n:Int} {nm:List UInt8} {A:Option Addr} {k c:Nat} {a er:Int} (h:ResBox w g op n nm A k c a er):g+2<w.heap.size:=(Array.getElem?_eq_some_iff.1 h.e).1
theorem ResBox.grown {w w':World} {row:Option Nat} {g:Nat} {op n:Int} {nm:List UInt8} {A:Option Addr} {k c:Nat} {a er:Int} (h:ResBox w g op n nm A k c a er) (hg:w.grownBy w' row) (h0:some g≠row) (h1:some (g+1)≠row) (h2:some (g+2)≠row):ResBox w' g op n nm A k c a er:=
  ⟨h.x.grown hg h0,h.p.grown hg h1,(hg.block _ h.lt h2).trans h.e⟩
def put6 (w:World) (g:Nat) (op n:Int) (nm:List UInt8) (A:Option Addr) (k c:Nat) (a er:Int):World:=
  ((set4 w g (.int .i64 op) (.int .i64 n) (.string ⟨nm.toArray⟩) (.slice A k c)).setCell ⟨g+1,0,none⟩ (.int .i64 a)).setCell ⟨g+2,0,none⟩ (.int .i64 er)
theorem ResBox.put {w:World} {g:Nat} {op n:Int} {nm:List UInt8} {A:Option Addr} {k c:Nat} {a er:Int} (h:ResBox w g op n nm A k c a er) (op' n':Int) (nm':List UInt8) (A':Option Addr) (k' c':Nat) (a' er':Int):ResBox (put6 w g op' n' nm' A' k' c' a' er') g op' n' nm' A' k' c' a' er':=by
  have hx:XV (set4 w g (.int .i64 op') (.int .i64 n') (.string ⟨nm'.toArray⟩) (.slice A' k' c')) g op' n' nm' A' k' c':=⟨zb6 h.x.heap _ _ _ _⟩;have hp:=h.p.grown (zaD w g (.int .i64 op') (.int .i64 n') (.string ⟨nm'.toArray⟩) (.slice A' k' c')) (by intro q;injection q;omega);have he:=((zaD w g (.int .i64 op') (.int .i64 n') (.string ⟨nm'.toArray⟩) (.slice A' k' c')).block (g+2) h.lt (by intro q;injection q;omega)).trans h.e;have hx2:=hx.other (q:=g+1) (i:=0) (.int .i64 a') (by omega);have hp2:=hp.set a';have he2:=((zaf (set4 w g (.int .i64 op') (.int .i64 n') (.string ⟨nm'.toArray⟩) (.slice A' k' c')) (g+1) 0 (.int .i64 a')).block (g+2) (by rw [zaz];exact h.lt) (by intro q;injection q;omega)).trans he;refine ⟨hx2.other (q:=g+2) (i:=0) (.int .i64 er') (by omega),hp2.grown (zaf _ (g+2) 0 (.int .i64 er')) (by intro q;injection q;omega),?_⟩
  have:=heap_setCell_same _ (g+2) 0 _ _ (.int .i64 er') he2;unfold put6;rw [this]
  rfl
theorem zdu {w:World} {g:Nat} (op n:Int) (nm:List UInt8) (A:Option Addr) (k c:Nat) (a er:Int):Below g w (put6 w g op n nm A k c a er):=
  ((((((Below.refl g w).setCell (p:=⟨g,0,none⟩) (Nat.le_refl _) _).setCell (p:=⟨g,1,none⟩) (Nat.le_refl _) _).setCell (p:=⟨g,2,none⟩) (Nat.le_refl _) _).setCell (p:=⟨g,3,none⟩) (Nat.le_refl _) _).setCell (p:=⟨g+1,0,none⟩) (Nat.le_succ _) _).setCell (p:=⟨g+2,0,none⟩) (Nat.le_add_right g 2) _
theorem ResBox.set2 {w:World} {g:Nat} {op n:Int} {nm:List UInt8} {A:Option Addr} {k c:Nat} {a0 e0:Int} (h:ResBox w g op n nm A k c a0 e0) (a er:Int):ResBox ((w.setCell ⟨g+1,0,none⟩ (.int .i64 a)).setCell ⟨g+2,0,none⟩ (.int .i64 er)) g op n nm A k c a er:=by
  have he2:=((zaf w (g+1) 0 (.int .i64 a)).block (g+2) h.lt (by intro q;injection q;omega)).trans h.e;refine ⟨(h.x.other (q:=g+1) (i:=0) (.int .i64 a) (by omega)).other (q:=g+2) (i:=0) (.int .i64 er) (by omega),(h.p.set a).grown (zaf _ (g+2) 0 (.int .i64 er)) (by intro q;injection q;omega),?_⟩
  have:=heap_setCell_same _ (g+2) 0 _ _ (.int .i64 er) he2;rw [this]
  rfl
theorem ResBox.below {w w':World} {g:Nat} {op n:Int} {nm:List UInt8} {A:Option Addr} {k c:Nat} {a er:Int} (h:ResBox w g op n nm A k c a er) (hb:Below w.heap.size w w'):ResBox w' g op n nm A k c a er:=h.grown (zap (row:=Option.none) hb) (by simp) (by simp) (by simp)
def zfj (a er:Int) (rec:Bool):PanicEntry:={ v := .iface 128 (.agg #[.int .i64 a,.int .i64 er]),recovered:=rec }
def CatchR (w:World) (g:Nat) (a er:Int) (e:Ending) (u:FrameMode) (w':World):Prop:=e = .returned (.tuple #[])∧u = .panicking [zfj a er true]∧ResBox w' g 0 0 [] Option.none 0 0 a er∧Below g w w'
theorem zh8 (v:Value) (w:World):(Instr.typeAssert (.iface 128 v) 20 128 true).run Tryz.prog w = .ok (.tuple #[v,.bool true]) w:=by kernel_rfl
attribute [local go_sem] zh8
def EndQ (R:World→Prop) (e:Exit) (a:Act) (w:World):Prop:=e = .normal∧a.defers=[]∧R w
theorem zez (v0 v1 v2:Value) (w:World):CallsD Tryz.prog 75 #[v0,v1,v2] .returning w fun e u' w'=>e = .returned (.tuple #[])∧u' = .returning∧w'=w:=by
  refine callsD_of_wpS Tryz.func75 rfl fun c₀ cs hu => ?_
  apply wpS_seq
  apply wpS_region
  simp [wpOpsS,go_sem,recoverD,hu,Tryz.ntmps75,Exit.thenS]
  refine wpS_of_wp (wp_mono (Q:=EndQ (fun w'=>w'=w)) ?_ ?_)
  · clear hu
    change Code.wp _ _ _ { tmps := #[v0,v1,v2,.nilIface,undef,undef,.nilIface,undef,undef,undef,undef,undef,undef,undef,undef,undef,undef,undef,undef,undef],defers:=[] } w
    go_wp2
    exact ⟨rfl,rfl,rfl⟩
  rintro e a' w' ⟨rfl,hd,rfl⟩
  exact ⟨hd,.returning,by rw [← hu],.tuple #[],by simp [results,Tryz.results75],rfl,rfl,rfl⟩
theorem zbY (g:Nat) (a er:Int) (w:World) (op n:Int) (nm:List UInt8) (A:Option Addr) (k c:Nat) (a0 e0:Int) (h:ResBox w g op n nm A k c a0 e0) :
    CallsD Tryz.prog 75 #[.pointer (some ⟨g,0,none⟩),.pointer (some ⟨g+1,0,none⟩),.pointer (some ⟨g+2,0,none⟩)] (.panicking [zfj a er false]) w (CatchR w g a er):=by
  obtain ⟨⟨x0,x1,x2,x3,z0,z1,z2,z3⟩,⟨p0,p1⟩,⟨e0',e1⟩⟩:=h.cells;have hlt:=h.lt;have HB:=Hi h;clear h;refine callsD_of_wpS Tryz.func75 rfl fun c₀ cs hu => ?_
  unfold zfj at hu
  apply wpS_seq
  apply wpS_region
  simp [wpOpsS,go_sem,recoverD,hu,Tryz.ntmps75,Exit.thenS]
  refine wpS_of_wp (wp_mono (Q:=EndQ (fun w'=>ResBox w' g 0 0 [] Option.none 0 0 a er∧Below g w w')) ?_ ?_)
  · clear hu
    change Code.wp _ _ _ { tmps := #[.pointer (some ⟨g,0,none⟩),.pointer (some ⟨g+1,0,none⟩),.pointer (some ⟨g+2,0,none⟩),.iface 128 (.agg #[.int .i64 a,.int .i64 er]),undef,undef,.iface 128 (.agg #[.int .i64 a,.int .i64 er]),undef,undef,undef,undef,undef,undef,undef,undef,undef,undef,undef,undef,undef],defers:=[] } w
    go_wp2
    change Code.wp _ _ _ _ ((put6 w g 0 0 [] Option.none 0 0 0 6).alloc _)
    have hb6:=HB.out.put 0 0 [] Option.none 0 0 0 6
    have hbl:=zdu (w:=w) (g:=g) 0 0 [] Option.none 0 0 0 6
    have hws:(put6 w g 0 0 [] Option.none 0 0 0 6).heap.size=w.heap.size:=by
      unfold put6
      rw [World.size_setCell,World.size_setCell,zaz]
    generalize put6 w g 0 0 [] Option.none 0 0 0 6=W at *
    rw [← hws]
    have hlt6:=hb6.lt
    have hlt5:g+1<W.heap.size:=by omega
    have HB6:=Hi hb6
    have HBL:=Hi hbl
    clear x0 x1 x2 x3 z0 z1 z2 z3 p0 p1 e0' e1 HB hlt hws
    obtain ⟨-,⟨p0,p1⟩,⟨e0',e1⟩⟩:=hb6.cells
    clear hb6 hbl
    go_region
    all_goals
      go_wp2
      refine ⟨rfl,rfl,?_,?_⟩
      · exact (HB6.out.set2 a er).below (zad (zaa _ _))
      · exact zad (((HBL.out.setCell (p:=⟨g+1,0,none⟩) (Nat.le_succ _) _).setCell (p:=⟨g+2,0,none⟩) (Nat.le_add_right g 2) _).alloc (by rw [World.size_setCell,World.size_setCell];omega) _)
  rintro e a' w' ⟨rfl,hd,h1,h2⟩
  exact ⟨hd,.panicking [zfj a er true],rfl,.tuple #[],by simp [results,Tryz.results75],rfl,rfl,h1,h2⟩
end Go.Proofs.YtcikenlflcofbaaGreatDoor
