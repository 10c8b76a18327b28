/-
  Depth, size and validity of an expression in plain words. No program is named here.
-/
import Derived.Test.YtcikenlflcofbaaGreatDoorP1
import Derived.Test.YtcikenlflcofbaaGreatDoorKVfH
namespace Go.Proofs.YtcikenlflcofbaaGreatDoor
def inG:Nat→Ex→Prop
  | 0,_=>False
  | d+1,.mk _ _ _ ks=>∀ k∈ks,inG d k
def szL (f:Ex→Nat):List Ex→Nat
  | []=>0
  | k::ks=>f k+szL f ks
def szG:Nat→Ex→Nat
  | 0,_=>0
  | d+1,.mk _ _ _ ks=>1+szL (szG d) ks
def dpL (f:Ex→Nat):List Ex→Nat
  | []=>0
  | k::ks=>max (f k) (dpL f ks)
def dpG:Nat→Ex→Nat
  | 0,_=>0
  | d+1,.mk _ _ _ ks=>dpL (dpG d) ks+1
def bltG:Nat→Ex→Bool
  | 0,_=>true
  | d+1,.mk op n nm ks=>za7 op n nm ks.length && ks.all (bltG d)
theorem ziC {f:Ex→Nat} {m:Nat}:∀ (ks:List Ex),dpL f ks≤m↔∀ k∈ks,f k≤m
  | []=>by simp [dpL]
  | k::ks=>by simp [dpL,Nat.max_le,ziC ks]
theorem vL_eq {f:Nat→Ex→Option Nat} {a:Ex→Bool} {s:Ex→Nat}:∀ (ks:List Ex) (left:Nat),(∀ k∈ks,∀ l,f l k=if a k=true∧s k≤l then some (l-s k) else none) →
    vL f left ks=if ks.all a=true∧szL s ks≤left then some (left-szL s ks) else none
  | [],left,_=>by simp [vL,szL]
  | k::ks,left,h=>by
    have h1:=h k (List.mem_cons_self ..) left;have h2:=fun l=>vL_eq ks l (fun y hy=>h y (List.mem_cons_of_mem _ hy))
    unfold vL;rw [h1]
    by_cases hk:a k=true∧s k≤left
    · rw [if_pos hk]
      show vL f (left-s k) ks=_
      rw [h2]
      have e1:(k::ks).all a=ks.all a:=by rw [List.all_cons,hk.1,Bool.true_and]
      have e2:szL s (k::ks)=s k+szL s ks:=rfl
      rw [e1,e2]
      by_cases hr:ks.all a=true∧szL s ks≤left-s k
      · rw [if_pos hr,if_pos ⟨hr.1,by omega⟩,Nat.sub_sub]
      · rw [if_neg hr,if_neg (fun q=>hr ⟨q.1,by omega⟩)]
    · rw [if_neg hk]
      refine (if_neg ?_).symm
      rintro ⟨q1,q2⟩
      rw [List.all_cons,Bool.and_eq_true] at q1
      unfold szL at q2
      exact hk ⟨q1.1,by omega⟩
theorem vG_eq:∀ (D:Nat) (x:Ex) (d left:Nat),inG D x→vG d left x=if (decide (dpG D x≤d) && bltG D x)=true∧szG D x≤left then some (left-szG D x) else none
  | 0,_,_,_,h=>h.elim
  | D+1,.mk op n nm ks,0,left,h=>by
    rw [if_neg]
    · rfl
    · simp [dpG]
  | D+1,.mk op n nm ks,d+1,left,h=>by
    have hv:=vL_eq (f:=vG d) (a:=fun k=>decide (dpG D k≤d) && bltG D k) (s:=szG D) ks (left-1) (fun k hk l=>vG_eq D k d l (h k hk));unfold vG
    have hall:(ks.all fun k=>decide (dpG D k≤d) && bltG D k)=(decide (dpL (dpG D) ks≤d) && ks.all (bltG D)):=by
      rw [Bool.eq_iff_iff];simp only [List.all_eq_true,Bool.and_eq_true,decide_eq_true_eq,ziC];exact ⟨fun q=>⟨fun k hk=>(q k hk).1,fun k hk=>(q k hk).2⟩,fun q k hk=>⟨q.1 k hk,q.2 k hk⟩⟩
    rw [hv,hall]
    have hdp:decide (dpG (D+1) (.mk op n nm ks)≤d+1)=decide (dpL (dpG D) ks≤d):=by
      simp only [dpG];exact decide_eq_decide.2 (by omega)
    have e1:bltG (D+1) (.mk op n nm ks)=(za7 op n nm ks.length && ks.all (bltG D)):=rfl;have e2:szG (D+1) (.mk op n nm ks)=1+szL (szG D) ks:=rfl;rw [hdp,e1,e2]
    cases hn:za7 op n nm ks.length with
    | false=>simp
    | true =>
      rw [Bool.true_and]
      by_cases hl:left=0
      · subst hl
        simp
      · rw [if_neg (by simp [hl])]
        by_cases hr:(decide (dpL (dpG D) ks≤d) && ks.all (bltG D))=true∧szL (szG D) ks≤left-1
        · rw [if_pos hr,if_pos ⟨hr.1,by omega⟩,Nat.sub_sub]
        · rw [if_neg hr,if_neg (fun q=>hr ⟨q.1,by omega⟩)]
theorem zjB {f:Ex→Nat}:∀ {ks:List Ex} {k:Ex},k∈ks→f k≤szL f ks
  | [],_,h=>by cases h
  | y::ks,k,h=>by
    unfold szL
    rcases List.mem_cons.1 h with rfl | h
    · omega
    · have:=zjB (f:=f) h;omega
theorem zkR:∀ (d:Nat) (x:Ex),dpG d x≤szG d x
  | 0,_=>Nat.le_refl _
  | d+1,.mk op n nm ks=>by
    have h:dpL (dpG d) ks≤szL (szG d) ks:=(ziC ks).2 fun k hk=>Nat.le_trans (zkR d k) (zjB hk)
    simp only [dpG,szG];omega
theorem zhq {D:Nat} {x:Ex} (h:inG D x):zaR x=(decide (dpG D x≤16) && (decide (szG D x≤60) && bltG D x)):=by
  unfold zaR;rw [vG_eq D x 16 60 h,Bool.eq_iff_iff]
  by_cases hc:(decide (dpG D x≤16) && bltG D x)=true∧szG D x≤60
  · rw [if_pos hc]
    obtain ⟨h1,h2⟩:=hc
    rw [Bool.and_eq_true] at h1
    simp [h1.1,h1.2,h2]
  · rw [if_neg hc]
    simp only [Option.isSome_none,Bool.false_eq_true,false_iff,Bool.and_eq_true,decide_eq_true_eq]
    rintro ⟨q1,q2,q3⟩
    exact hc ⟨by simp [q1,q3],q2⟩
end Go.Proofs.YtcikenlflcofbaaGreatDoor
set_option maxRecDepth 100000
set_option maxHeartbeats 8000000
namespace Go.Proofs.YtcikenlflcofbaaGreatDoor
open Go.RowKit
def RetN (n:Int) (w:World) (e:Ending) (w':World):Prop:=e = .returned (.int .i64 n)∧Below w.heap.size w w'
def SzX (W0:World) (f:Ex→Nat) (ks:List Ex) (total:Nat) (g:Nat) (v u:Value) (wr:World):Prop:=
  ∃ k m:Nat,k≤ks.length∧ks.length-k<g∧v = .int .i64 (k:Int)∧u = .int .i64 (m:Int)∧m+szL f (ks.drop k)=total∧Below W0.heap.size W0 wr
def SlX (W0:World) (P:Ex→Prop) (ks:List Ex) (g:Nat) (v:Value) (wr:World):Prop:=∃ k,k≤ks.length∧ks.length-k<g∧v = .int .i64 (k:Int)∧(∀ j x,j<k→ks[j]? = some x→P x)∧Below W0.heap.size W0 wr
theorem zlX {P:Ex→Prop} {ks:List Ex} {k:Nat} (h:∀ j x,j<k→ks[j]? = some x→P x) (hk:ks.length≤k):∀ x∈ks,P x:=by
  intro x hx;obtain ⟨j,hj,rfl⟩:=List.getElem_of_mem hx;exact h j _ (by omega) (List.getElem?_eq_getElem hj)
theorem zcK {P:Ex→Prop} {ks:List Ex} {k:Nat} {y:Ex} (h:∀ j x,j<k→ks[j]? = some x→P x) (hy:ks[k]? = some y) (hp:P y):∀ j x,j<k+1→ks[j]? = some x→P x:=by
  intro j x hj hx
  rcases Nat.lt_succ_iff_lt_or_eq.1 hj with q | rfl
  · exact h j x q hx
  · rw [hy] at hx;cases hx;exact hp
theorem zjs:∀ (d:Nat) (op n:Int) (nm:List UInt8) (A:Option Addr) (c:Nat) (ks:List Ex) (w:World),szG (d+1) (.mk op n nm ks)≤1000000000000000000→ks.length≤9223372036854775807→Rw (ExC d) 4 w (fun b=>b<w.heap.size) A ks.length ks →
    Calls Tryz.prog 70 #[exV op n nm A ks.length c] w (RetN (szG (d+1) (.mk op n nm ks)) w):=by
  intro d
  induction d using Nat.strongRecOn with
  | _ d ih =>
    intro op n nm A c ks w hTl hkl hr;have hT:1+szL (szG d) ks=szG (d+1) (.mk op n nm ks):=rfl;generalize hTT:szG (d+1) (.mk op n nm ks)=T at *;clear hTT;have HT:=Hi hT;have HIH:=Hi ih;have HR:=Hi hr;clear ih hr hT;unfold exV;have HB:=Hi (zaa w (Obj.cells #[.int .i64 op,.int .i64 n,.string ⟨nm.toArray⟩,.slice A ks.length c] 48));go_enter Tryz.func70,Tryz.ntmps70;go_wp2;go_loopg [9,3] (ks.length+1) (fun g v u wr=>SzX (w.alloc (Obj.cells #[.int .i64 op,.int .i64 n,.string ⟨nm.toArray⟩,.slice A ks.length c] 48)) (szG d) ks T g v u wr)
    case atStart=>exact ⟨0,1,Nat.zero_le _,by omega,rfl,rfl,HT.out,Below.refl _ _⟩
    case round =>
      obtain ⟨k,m,hk,hg,rfl,rfl,hm,hb⟩:=hrel;have hsz:=hb.size;simp only [World.size_alloc] at hsz;have hbw:=zac HB.out hb HB.out.size
      by_cases hlt:k<ks.length
      case neg =>
        have HBW:=Hi hbw;rw [List.drop_eq_nil_of_le (by omega)] at hm;have HM:=Hi (show m=T from hm);clear hb hbw hm;go_wp2;go_ret
        exact ⟨by rw [HM.out];rfl,HBW.out⟩
      obtain ⟨d',b,o,op2,n2,nm2,A2,c2,ys,hd',hA,hSb,hky,hc2,hm2,hp2,hr2,hxb⟩:=zfA (HR.out.mono (ExC.mono _) (fun b q=>q) (zab hbw fun b q=>q)) hlt;subst hA;obtain ⟨y0,y1,y2,y3⟩:=hxb
      have hget:ks[k] = .mk op2 n2 nm2 ys:=by
        rw [List.getElem?_eq_getElem hlt] at hky;injection hky
      rw [List.drop_eq_getElem_cons hlt,hget] at hm;unfold szL at hm;have hbk:b<wr.heap.size:=by omega
      have hbx:=zaa wr (Obj.cells #[.int .i64 op2,.int .i64 n2,.string ⟨nm2.toArray⟩,.slice A2 ys.length c2] 48);have hys:ys.length≤9223372036854775807:=by unfold maxLen at hm2;omega
      have C1:=HIH.out d' (by omega) op2 n2 nm2 A2 c2 ys (wr.alloc (Obj.cells #[.int .i64 op2,.int .i64 n2,.string ⟨nm2.toArray⟩,.slice A2 ys.length c2] 48)) (by rw [← hd'];omega) hys (hr2.mono (ExC.mono _) (fun b q=>by simp only [World.size_alloc];omega) (zab hbx fun b q=>by omega));rw [← hd'] at C1;unfold exV at C1;generalize szG d (.mk op2 n2 nm2 ys)=s2 at *;have HC1:=Hi C1;have HM:=Hi (show m+s2+szL (szG d) (ks.drop (k+1))=T by omega);have hms:m+s2≤1000000000000000000:=by omega
      have HBB:=Hi (zac hb hbx hb.size);clear hr2 C1 hbw hp2 hky hb hbx hSb hc2 hm hget hd';unfold maxLen at hm2;go_wp2_with fail
      refine HC1.out.mono ?_
      rintro e w5 ⟨rfl,hb5⟩
      go_wp2;go_roundg (ks.length-k)
      case measure=>omega
      case rel=>exact ⟨k+1,m+s2,by omega,by omega,by go_num,by go_num,HM.out,zac HBB.out hb5 HBB.out.size⟩
end Go.Proofs.YtcikenlflcofbaaGreatDoor
