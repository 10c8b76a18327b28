/-
  The emitter's walk over one expression.
-/
import Derived.Test.YtcikenlflcofbaaGreatDoorEmP
import Derived.Test.YtcikenlflcofbaaGreatDoorWN
import Derived.Test.YtcikenlflcofbaaGreatDoorLV
set_option maxRecDepth 100000
set_option maxHeartbeats 8000000
namespace Go.Proofs.YtcikenlflcofbaaGreatDoor
open Go.RowKit
theorem EmK.bel {w w':World} {eb:Nat} {mi mr:Value} {m:Em} {v0 v1:Value} (h:EmW w eb mi mr m v0 v1) (k:EmK w eb v0 v1 w'):Below eb w w' :=
  ⟨k.os,k.tape,k.output,k.size,fun b hb=>k.block b (Nat.lt_trans hb h.lt) (by omega) (fun q=>by have:=(h.code.lt b q).1;omega) (fun q=>by have:=(h.cells.lt b q).1;omega)⟩
theorem Fresh.pre {w w':World} {v v':Value} (hs:w.heap.size≤w'.heap.size) (h:Fresh w' v v'):Fresh w v v':=by
  rcases h with e | ⟨g,e,hg⟩
  · exact .inl e
  · exact .inr ⟨g,e,by omega⟩
theorem RetEm.after {W0 wr:World} {eb:Nat} {mi mr:Value} {M:Em} {v0 v1 v0' v1':Value} {e:Ending} {w':World} (k:EmK W0 eb v0 v1 wr) (f0:Fresh W0 v0 v0') (f1:Fresh W0 v1 v1') (h:RetEm eb mi mr M wr v0' v1' e w'):RetEm eb mi mr M W0 v0 v1 e w':=by
  obtain ⟨he,a,b,hw,hk,g0,g1⟩:=h;exact ⟨he,a,b,hw,k.trans hk f0 f1,f0.trans g0 k.size,f1.trans g1 k.size⟩
theorem RetEm.pre {w w1:World} {eb:Nat} {mi mr:Value} {M:Em} {v0 v1:Value} {e:Ending} {w':World} (hb:Below w.heap.size w w1) (h:RetEm eb mi mr M w1 v0 v1 e w'):RetEm eb mi mr M w v0 v1 e w':=by
  obtain ⟨he,a,b,hw,hk,g0,g1⟩:=h;exact ⟨he,a,b,hw,EmK.pre hb hk,g0.pre hb.size,g1.pre hb.size⟩
theorem EmW.pushC {w w6:World} {eb:Nat} {mi mr:Value} {m:Em} {v0 v1 v6:Value} (h:EmW w eb mi mr m v0 v1) (i:Cl) (ho:w6.ownsRow (eb+1) 89 2 v6 (m.cells.length+1) (m.cells.flatMap clC++clC i)) (o:Obj) (hg:(w.alloc o).grownBy w6 v1.ownBlock) (hv:v6.ownBlock=v1.ownBlock∨v6.ownBlock=some (w.alloc o).heap.size) (hfew:m.cells.length+1≤m.code.length) :
    EmW (w6.setCell ⟨eb,1,none⟩ v6) eb mi mr ⟨m.code,m.cells++[i],m.height,m.most⟩ v0 v6∧EmK w eb v0 v1 (w6.setCell ⟨eb,1,none⟩ v6)∧Fresh w v1 v6:=by
  have hlt:=h.lt;have hs:=hg.size;rw [World.size_alloc] at hs;have hne:some eb≠v1.ownBlock:=fun q=>by have:=(h.cells.lt eb q.symm).1;omega
  have hh:w6.heap[eb]? = some (.cells #[v0,v1,mi,mr,.int .i64 m.height,.int .i64 m.most] 70 (0,0)):=(hg.block eb (by rw [World.size_alloc];omega) hne).trans ((Lib.alloc_old w o eb hlt).trans h.heap)
  have hfr:Fresh w v1 v6:=by
    rcases hv with e | e
    · exact .inl e
    · exact .inr ⟨_,e,by rw [World.size_alloc];omega⟩
  refine ⟨⟨by have:=heap_setCell_same w6 eb 1 _ _ v6 hh;rw [this];rfl,?_,?_,fun g hg6 => ?_,h.low,h.high,h.most,?_⟩,?_,hfr⟩
  · refine zam (zam (h.code.alloc o) (w':=w6) (fun g e hgs=>hg.block g hgs (fun q=>h.apart g e q.symm))) (fun g e hgs=>(zaf w6 eb 1 _).block g hgs (fun q=>by injection q;have:=(h.code.lt g e).1;omega))
  · have h2:=zam ho (w':=w6.setCell ⟨eb,1,none⟩ v6) (fun g e hgs=>(zaf w6 eb 1 _).block g hgs (fun q=>by injection q;have:=(ho.lt g e).1;omega))
    simpa using h2
  · rcases hv with e | e
    · rw [e];exact h.apart g hg6
    · rw [e]
      intro q
      injection q with q
      rw [World.size_alloc] at q
      have:=(h.code.lt g hg6).2
      omega
  · simp only [List.length_append,List.length_singleton]
    exact hfew
  · have k1:EmK w eb v0 v1 w6:=⟨hg.os,hg.tape,hg.output,by omega,fun b hb hn h0 h1=>(hg.block b (by rw [World.size_alloc];omega) (fun q=>h1 q.symm)).trans (Lib.alloc_old w o b hb)⟩
    exact k1.set 1 v6
theorem zdR (ins rls:List (List UInt8)) (op n:Int) (nm:List UInt8) (m:Em):(za8 ins rls op n nm m).code.length=m.code.length+1:=by
  have h:∀ o a,(addE m o a).code.length=m.code.length+1:=fun o a=>by unfold addE;simp
  unfold za8
  split
  · split
    · exact h _ _
    · exact h _ _
  split
  · exact h _ _
  split
  · exact h _ _
  · exact h _ _
theorem zeY {f:Em→Ex→Em} (hf:∀ m k,m.code.length≤(f m k).code.length):∀ (ks:List Ex) (m:Em),m.code.length≤(ks.foldl f m).code.length
  | [],_=>Nat.le_refl _
  | k::ks,m=>Nat.le_trans (hf m k) (zeY hf ks _)
theorem zdQ (ins rls:List (List UInt8)):∀ (d:Nat) (x:Ex) (m:Em),m.code.length≤(zat ins rls d x m).code.length
  | 0,_,m=>Nat.le_refl _
  | d+1,.mk op n nm ks,m=>by
    show _≤(za8 ins rls op n nm (ks.foldl (fun m k=>zat ins rls d k m) m)).code.length
    rw [zdR];have:=zeY (f:=fun m k=>zat ins rls d k m) (fun m k=>zdQ ins rls d k m) ks m;omega
theorem zcV {w:World} {eb:Nat} {mi mr:Value} {m:Em} {v0 v1:Value} (op a:Int) (hr:(1≤op∧op≤22∧op≠3)∨op=30∨op=31∨op=32) (h:EmW w eb mi mr m v0 v1) (hl:m.code.length≤100000) (W:World) (hb:Below w.heap.size w W) :
    Calls Tryz.prog 25 #[.pointer (some ⟨eb,0,none⟩),.int .i64 op,.int .i64 a] W (RetEm eb mi mr (addE m op a) w v0 v1):=(zij op a hr (h.below hb) hl).mono fun _ _ q=>q.pre hb
theorem zdB (w:World):(zeroValue 3).run Tryz.prog w = .ok (.int .i64 0) w:=by kernel_rfl
def ExR (f:Em→Ex→Em) (W0:World) (eb:Nat) (mi mr v0 v1:Value) (ks:List Ex) (T:Em) (g:Nat) (v:Value) (wr:World):Prop:=
  ∃ (k:Nat) (m:Em) (v0' v1':Value),k≤ks.length∧ks.length-k<g∧v = .int .i64 (k:Int)∧(ks.drop k).foldl f m=T∧EmW wr eb mi mr m v0' v1'∧EmK W0 eb v0 v1 wr∧Fresh W0 v0 v0'∧Fresh W0 v1 v1'
def plF (l:List (List UInt8)) (s:ByteArray):Option Value:=(zbl l s.toList).map fun i => .int .i64 i
theorem zjY (ins rls:List (List UInt8)) (eb bi br ni nr:Nat) (hbi:bi<eb) (hbr:br<eb):∀ (d:Nat) (op n:Int) (nm:List UInt8) (A:Option Addr) (c:Nat) (ks:List Ex) (m:Em) (w:World) (v0 v1:Value),
    okG (d+1) (.mk op n nm ks)→ExP op n nm→ks.length≤9223372036854775807→Rw ExV 4 w (fun b=>b<eb) A ks.length ks→EmW w eb (.map (some bi)) (.map (some br)) m v0 v1 →
    MapS Tryz.prog 9 3 w bi ni (plF ins)→MapS Tryz.prog 9 3 w br nr (plF rls)→(zat ins rls (d+1) (.mk op n nm ks) m).code.length≤100000 →
    Calls Tryz.prog 24 #[.pointer (some ⟨eb,0,none⟩),exV op n nm A ks.length c] w (RetEm eb (.map (some bi)) (.map (some br)) (zat ins rls (d+1) (.mk op n nm ks) m) w v0 v1):=by
  intro d
  induction d using Nat.strongRecOn with
  | _ d ih =>
    intro op n nm A c ks m w v0 v1 hok hp hkl hr hw hmi hmr hT;have hres:zat ins rls (d+1) (.mk op n nm ks) m=za8 ins rls op n nm (ks.foldl (fun m k=>zat ins rls d k m) m):=rfl;rw [hres] at hT ⊢;rw [zdR] at hT;obtain ⟨T,hTT⟩:∃ T,ks.foldl (fun m k=>zat ins rls d k m) m=T:=⟨_,rfl⟩;rw [hTT] at hT ⊢;have HTT:=Hi hTT;have HOK:=Hi hok;have HIH:=Hi ih;have HR:=Hi hr;have HP:=Hi hp;have HW:=Hi hw;have HMI:=Hi hmi;have HMR:=Hi hmr;have HB:=Hi (zaa w (Obj.cells #[.int .i64 op,.int .i64 n,.string ⟨nm.toArray⟩,.slice A ks.length c] 48));have HX:=Hi (XV.new w op n nm A ks.length c);have hlt:=hw.lt;clear hres hTT hok ih hr hp hw hmi hmr;unfold exV;obtain ⟨x0,x1,x2,x3,-,-,-,-⟩:=HX.out.cells;go_enter Tryz.func24,Tryz.ntmps24;go_wp2;obtain ⟨W0,hW0⟩:∃ W0,w.alloc (Obj.cells #[.int .i64 op,.int .i64 n,.string ⟨nm.toArray⟩,.slice A ks.length c] 48)=W0:=⟨_,rfl⟩;have hs0:W0.heap.size=w.heap.size+1:=by rw [← hW0,World.size_alloc]
    have hw0:=HW.out.below HB.out;have HX0:=HX;have HB0:=HB;rw [hW0] at hw0 HX0 HB0 x0 x1 x2 x3 ⊢;clear hW0 HX HB;have HW0:=Hi hw0;have HS0:=Hi hs0;clear hw0 hs0;go_loopg [11] (ks.length+1) (fun g v wr=>ExR (fun m k=>zat ins rls d k m) W0 eb (.map (some bi)) (.map (some br)) v0 v1 ks T g v wr)
    case atStart=>exact ⟨0,m,v0,v1,Nat.zero_le _,by omega,rfl,by rw [List.drop_zero];exact HTT.out,HW0.out,EmK.refl _ _ _ _,Fresh.refl _ _,Fresh.refl _ _⟩
    case round =>
      obtain ⟨k,mk,v0',v1',hk,hg,rfl,hm,hwr,hkr,hf0,hf1⟩:=hrel;have hsz:=hkr.size;have hs0:=HS0.out;have hbel:=EmK.bel HW0.out hkr;have hbw:Below eb w wr:=((HB0.out).mono (by omega)).trans hbel;have hxh:wr.heap[w.heap.size]? = W0.heap[w.heap.size]? := hkr.block _ (by omega) (by omega) (fun q=>by have:=(HW.out.code.lt _ q).2;omega) (fun q=>by have:=(HW.out.cells.lt _ q).2;omega);have HXR:XV wr w.heap.size op n nm A ks.length c:=⟨hxh.trans HX0.out.heap⟩;obtain ⟨r0,r1,r2,r3,-,-,-,-⟩:=HXR.cells
      by_cases hlk:k<ks.length
      case neg =>
        rw [List.drop_eq_nil_of_le (by omega)] at hm;obtain rfl:mk=T:=hm;have hop:=zcS HOK.out.1;have hfew:=hwr.few;have HWR:=Hi hwr;have HFIN:=Hi (fun (M:Em) (e:Ending) (w':World) (h:RetEm eb (.map (some bi)) (.map (some br)) M wr v0' v1' e w')=>(RetEm.after hkr hf0 hf1 h).pre HB0.out);obtain ⟨p0,p1,p2,p3,p4,p5⟩:=hwr.six;have hlr:=hwr.lt;have hmi:=HMI.out.below hbw hbi;have hmr:=HMR.out.below hbw hbr;have hnm:(⟨nm.toArray⟩:ByteArray).toList=nm:=by rw [zaQ]
        have hns:(⟨nm.toArray⟩:ByteArray).size≤maxLen:=HP.out.2.2;have hli:=hmi.drew.look (t := 68) Tryz.underlying9 Tryz.underlying68 (zdB _) hns true;have hlr2:=hmr.drew.drew.look (t := 68) Tryz.underlying9 Tryz.underlying68 (zdB _) hns false;unfold plF at hli hlr2;rw [hnm] at hli hlr2;have HTL:=Hi (show mk.code.length≤100000 by omega);have HN0:=Hi (hf0.ne (k:=w.heap.size) (by omega) (fun q=>by have:=(HW.out.code.lt _ q).2;omega));have HN1:=Hi (hf1.ne (k:=w.heap.size) (by omega) (fun q=>by have:=(HW.out.cells.lt _ q).2;omega));have HXX:=Hi HXR;clear hkr hf0 hf1 hbw hbel hxh HXR hwr hmi hmr hnm hns HTT HIH HR HB0 HX0 HW0
        by_cases h3:op=3
        · subst h3
          cases hpl:zbl ins nm with
          | some i =>
            have HRE:=Hi (show za8 ins rls 3 n nm mk=addE mk 30 i by unfold za8;rw [if_pos rfl,hpl])
            have HC:=Hi (zcV 30 i (.inr (.inl rfl)) HWR.out HTL.out)
            rw [hpl] at hli
            simp only [if_true,Option.map_some,Option.getD_some,Option.isSome_some] at hli
            clear hpl hlr2 HOK HP
            go_upto_region 8 with fail
            go_region
            go_upto_region 10 with fail
            go_wp2_with fail
            refine (HC.out _ (zad (Below.refl _ _))).mono ?_
            rintro e w5 ⟨rfl,hres⟩
            go_wp2
            go_end0
            rw [HRE.out]
            exact HFIN.out _ _ _ ⟨rfl,hres⟩
          | none =>
            have HRE:=Hi (show za8 ins rls 3 n nm mk=addE mk 31 ((zbl rls nm).getD 0) by unfold za8;rw [if_pos rfl,hpl])
            obtain ⟨z,hz⟩:∃ z,(zbl rls nm).getD 0=z:=⟨_,rfl⟩
            rw [hz] at HRE
            have HC:=Hi (zcV 31 z (.inr (.inr (.inl rfl))) HWR.out HTL.out)
            rw [hpl] at hli
            simp only [if_true,Option.map_none,Option.getD_none,Option.isSome_none] at hli
            have hlz:(Option.map (fun i=>Value.int IntKind.i64 i) (zbl rls nm)).getD (Value.int IntKind.i64 0)=Value.int .i64 z:=by rw [← hz];cases zbl rls nm <;> rfl
            simp only [Bool.false_eq_true,if_false] at hlr2
            rw [hlz] at hlr2
            clear hpl HOK HP hz hlz
            go_upto_region 8 with fail
            go_region
            go_upto_region 11 with fail
            go_region_law ((go_simp;go_at_call 25;refine (HC.out _ (zad (zad (Below.refl _ _)))).mono ?_;rintro e' w7 ⟨rfl,hres⟩))
            all_goals
              go_end0
              rw [HRE.out]
              exact HFIN.out _ _ _ ⟨rfl,hres⟩
        by_cases h12:op=1∨op=2
        · have HRE:=Hi (show za8 ins rls op n nm mk=addE mk op n by unfold za8;rw [if_neg h3,if_pos h12])
          have HC:=Hi (zcV op n (.inl ⟨by omega,by omega,h3⟩) HWR.out HTL.out)
          clear hli hlr2 HOK HP h3
          rcases h12 with rfl | rfl
          all_goals
            go_upto_region 13 with fail
            go_wp2_with fail
            refine (HC.out _ (Below.refl _ _)).mono ?_
            rintro e w5 ⟨rfl,hres⟩
            go_wp2
            go_end0
            rw [HRE.out]
            exact HFIN.out _ _ _ ⟨rfl,hres⟩
        have e3:¬ op=3:=h3;have e1:¬ op=1:=fun q=>h12 (.inl q)
        have e2:¬ op=2:=fun q=>h12 (.inr q)
        have b3:(op == 3)=false:=by simpa using e3
        have b1:(op == 1)=false:=by simpa using e1
        have b2:(op == 2)=false:=by simpa using e2
        have HK:=Hi (zeW op wr)
        cases hkb:zaG op with
        | false =>
          have HRE:=Hi (show za8 ins rls op n nm mk=addE mk op 0 by unfold za8;rw [if_neg h3,if_neg h12,hkb];rfl);have HC:=Hi (zcV op 0 (.inl ⟨by omega,by omega,h3⟩) HWR.out HTL.out);rw [hkb] at HK;clear hli hlr2 HOK HP h3 h12 hkb;go_upto_region 14 with fail
          go_wp2_with fail
          refine HK.out.mono ?_
          rintro e w5 ⟨rfl,rfl⟩
          go_wp2_with fail
          refine (HC.out _ (Below.refl _ _)).mono ?_
          rintro e w5 ⟨rfl,hres⟩
          go_wp2;go_end0
          rw [HRE.out];exact HFIN.out _ _ _ ⟨rfl,hres⟩
        | true =>
          have HRE:=Hi (show za8 ins rls op n nm mk=⟨(addE mk op mk.cells.length).code,mk.cells++[⟨op,n⟩],(addE mk op mk.cells.length).height,(addE mk op mk.cells.length).most⟩ by unfold za8;rw [if_neg h3,if_neg h12,hkb];rfl);have HC:=Hi (zcV op mk.cells.length (.inl ⟨by omega,by omega,h3⟩) HWR.out HTL.out);rw [hkb] at HK;clear hli hlr2 HOK HP h3 h12 hkb;obtain ⟨A1,c1,hv1e,-,-⟩:=zag HWR.out.cells;subst hv1e;go_upto_region 14 with fail
          go_wp2_with fail
          refine HK.out.mono ?_
          rintro e w5 ⟨rfl,rfl⟩
          go_upto_region 15 with fail
          go_region_law ((go_simp;go_at_call 25;refine (HC.out _ (zad (Below.refl _ _))).mono ?_;rintro e' w7 ⟨rfl,hres⟩))
          all_goals
            obtain ⟨v07,v17,hw7,hk7,hf07,hf17⟩:=hres;have hw7':EmW w7 eb (.map (some bi)) (.map (some br)) ⟨(addE mk op mk.cells.length).code,mk.cells,(addE mk op mk.cells.length).height,(addE mk op mk.cells.length).most⟩ v07 v17:=hw7;clear hw7;obtain ⟨cd,hcd⟩:∃ cd,(addE mk op mk.cells.length).code=cd:=⟨_,rfl⟩;have hcl:mk.code.length+1≤cd.length:=by rw [← hcd];simp [addE]
            obtain ⟨ht,hht⟩:∃ ht,(addE mk op mk.cells.length).height=ht:=⟨_,rfl⟩;obtain ⟨mo,hmo⟩:∃ mo,(addE mk op mk.cells.length).most=mo:=⟨_,rfl⟩;rw [hcd,hht,hmo] at hw7' HRE;clear hcd hht hmo;have hx7:XV w7 w.heap.size op n nm A ks.length c:=⟨(hk7.block _ (by omega) (by omega) HN0.out HN1.out).trans HXX.out.heap⟩;obtain ⟨z0,z1,z2,z3,-,-,-,-⟩:=hx7.cells;obtain ⟨A7,c7,rfl,-,-⟩:=zag hw7'.cells;obtain ⟨q0,q1,q2,q3,q4,q5⟩:=hw7'.six;dsimp only at q0 q1 q4 q5;have g1:=hw7'.free 1;have hlt7:=hw7'.lt;obtain ⟨ti,hti,hzi⟩:=Option.map_eq_some_iff.1 zkU;obtain ⟨hz0,hz1,hz2⟩:ti.zero=some (.agg #[.int .i64 0,.int .i64 0])∧ti.size=2∧ti.bytes=16:=by simpa using hzi
            have HTI:=Hi (And.intro hti (And.intro hz0 (And.intro hz1 hz2)));have HOW:=Hi (show ((w7.alloc (Obj.cells #[.int .i64 op,.int .i64 n] 89)).drew).ownsRow (eb+1) 89 2 (.slice A7 mk.cells.length c7) mk.cells.length (mk.cells.flatMap clC) from hw7'.drew.cells.alloc (Obj.cells #[.int .i64 op,.int .i64 n] 89));have HSR:=Hi (show Src ((w7.alloc (Obj.cells #[.int .i64 op,.int .i64 n] 89)).drew) 2 (some ⟨w7.heap.size,0,none⟩) 1 [.int .i64 op,.int .i64 n] from zaL w7.drew [.int .i64 op,.int .i64 n] 89 2 1 rfl);have HM1:=Hi (show mk.cells.length+1≤maxLen by unfold maxLen;omega);have HM2:=Hi (show (mk.cells.length+1)*16≤140737488355328 by omega);have HBS:=Hi (show eb+1≤((w7.alloc (Obj.cells #[.int .i64 op,.int .i64 n] 89)).drew).heap.size by show eb+1≤(w7.alloc (Obj.cells #[.int .i64 op,.int .i64 n] 89)).heap.size;rw [World.size_alloc];omega);have HNS:=Hi (show some eb≠(Value.slice A7 mk.cells.length c7).ownBlock from fun q=>by have:=(hw7'.cells.lt eb q.symm).1;omega);have HE:=Hi hw7'.drew;have HK7:=Hi hk7;have HF07:=Hi hf07;have HF17:=Hi hf17;clear hti hzi hz0 hz1 hz2 hw7' hk7 hf07 hf17 hx7 p0 p1 p2 p3 p4 p5 r0 r1 r2 r3 x0 x1 x2 x3;go_upto_region 16 with fail
            go_region_law ((refine zaW (o:=⟨some 89,_,_,_,_,_⟩) (w:=(w7.alloc (Obj.cells #[.int .i64 op,.int .i64 n] 89)).drew) _ _ 32 rfl rfl Tryz.underlying32 HTI.out.1 HTI.out.2.1 HTI.out.2.2.1 HTI.out.2.2.2 rfl (by decide) rfl HOW.out rfl HSR.out (zkQ ⟨op,n⟩) HM1.out HM2.out HBS.out ?_;intro v6 w6 hown6 hg6 hv6;have hg6':(w7.drew.alloc (Obj.cells #[.int .i64 op,.int .i64 n] 89)).grownBy w6 (Value.slice A7 mk.cells.length c7).ownBlock:=hg6;have hh6:w6.heap[eb]? = some (.cells #[v07,Value.slice A7 mk.cells.length c7,.map (some bi),.map (some br),.int .i64 ht,.int .i64 mo] 70 (0,0)):=(hg6'.block eb (Nat.lt_of_lt_of_le (Nat.lt_succ_self eb) HBS.out) HNS.out).trans ((Lib.alloc_old w7.drew _ eb hlt7).trans HE.out.heap);have c6:w6.cell? ⟨eb,1,none⟩=some (Value.slice A7 mk.cells.length c7):=(by simp [World.cell?,hh6]);have f6:w6.frozen? ⟨eb,1,none⟩=false:=Lib.frozen_of_heap hh6 1;have h6l:=(Array.getElem?_eq_some_iff.1 hh6).1;have HP:=Hi (HE.out.pushC ⟨op,n⟩ hown6 (Obj.cells #[.int .i64 op,.int .i64 n] 89) hg6' hv6 (Nat.le_trans (Nat.succ_le_succ hfew) hcl));obtain ⟨A6,k6,hv6e,-,-⟩:=zag hown6;clear hg6 hg6' hh6 hv6 hown6;subst hv6e))
            all_goals
              go_end0
              rw [HRE.out];obtain ⟨hw9,hk9,hf9⟩:=HP.out;exact HFIN.out _ _ _ ⟨rfl,_,_,hw9,HK7.out.trans (EmK.pre (zad (Below.refl _ _)) hk9) HF07.out HF17.out,HF07.out,HF17.out.trans (hf9.pre (Nat.le_refl _)) HK7.out.size⟩
      have hr2:=HR.out.mono ExV.mono (fun b q=>q) (zab hbw fun b q=>q);obtain ⟨b,o,op2,n2,nm2,A2,c2,ys,hA,hSb,hky,hc2,hm2,hp2,hr3,hxb⟩:=exAt hr2 hlk;subst hA;obtain ⟨y0,y1,y2,y3⟩:=hxb
      have hget:ks[k] = .mk op2 n2 nm2 ys:=by
        rw [List.getElem?_eq_getElem hlk] at hky;injection hky
      rw [List.drop_eq_getElem_cons hlk,hget] at hm;rw [List.foldl_cons] at hm;have hokk:okG d (.mk op2 n2 nm2 ys):=by rw [← hget];exact HOK.out.2 _ (List.getElem_mem hlk)
      obtain ⟨d',rfl⟩:∃ d',d=d'+1:=by
        cases d with
        | zero=>exact hokk.elim
        | succ d=>exact ⟨d,rfl⟩
      have hys:ys.length≤9223372036854775807:=by unfold maxLen at hm2;omega
      have hbx:=zaa wr (Obj.cells #[.int .i64 op2,.int .i64 n2,.string ⟨nm2.toArray⟩,.slice A2 ys.length c2] 48);have hlr:=hwr.lt
      have hle:(zat ins rls (d'+1) (.mk op2 n2 nm2 ys) mk).code.length≤100000:=by
        have:=zeY (f:=fun m k=>zat ins rls (d'+1) k m) (fun m k=>zdQ ins rls (d'+1) k m) (ks.drop (k+1)) (zat ins rls (d'+1) (.mk op2 n2 nm2 ys) mk);rw [hm] at this;omega
      have C1:=HIH.out d' (by omega) op2 n2 nm2 A2 c2 ys mk (wr.alloc (Obj.cells #[.int .i64 op2,.int .i64 n2,.string ⟨nm2.toArray⟩,.slice A2 ys.length c2] 48)) v0' v1' hokk hp2 hys (hr3.mono ExV.mono (fun b q=>q) (zab hbx fun b q=>by omega)) (hwr.below hbx) (((HMI.out.below hbw hbi)).below hbx (by omega)) ((HMR.out.below hbw hbr).below hbx (by omega)) hle;unfold exV at C1;generalize zat ins rls (d'+1) (.mk op2 n2 nm2 ys) mk=m2 at *;have HC1:=Hi C1;have HM:=Hi hm;have HKR:=Hi hkr;have HF0:=Hi hf0;have HF1:=Hi hf1;have HBX:=Hi hbx;have hbk:b<wr.heap.size:=by omega
      clear hr2 hr3 C1 hm hkr hf0 hf1 hbx hbw hbel hxh HXR hky hget hokk hp2 hc2 hwr hle hSb;unfold maxLen at hm2;go_wp2_with fail
      refine HC1.out.mono ?_
      rintro e w5 ⟨rfl,v05,v15,hw5,hk5,hf05,hf15⟩
      go_wp2;go_roundg (ks.length-k)
      case measure=>omega
      case rel=>exact ⟨k+1,m2,v05,v15,by omega,by omega,by go_num,HM.out,hw5,HKR.out.trans (EmK.pre HBX.out hk5) HF0.out HF1.out,HF0.out.trans (hf05.pre HBX.out.size) (by omega),HF1.out.trans (hf15.pre HBX.out.size) (by omega)⟩
end Go.Proofs.YtcikenlflcofbaaGreatDoor
namespace Go.Proofs.YtcikenlflcofbaaGreatDoor
open Go.RowKit
theorem zlC:plF []=fun _=>Option.none:=by funext s;rfl
theorem zlD (l:List (List UInt8)) (x:List UInt8):putS (plF l) ⟨x.toArray⟩ (.int .i64 (l.length:Int))=plF (l++[x]):=by
  funext s
  unfold putS plF;have hx:(⟨x.toArray⟩:ByteArray).toList=x:=by rw [zaQ]
  rw [zcd,hx]
  by_cases h:s.toList=x
  · rw [if_pos h,if_pos h.symm]
    rfl
  · rw [if_neg h,if_neg (fun q=>h q.symm)]
theorem zg9 {α:Type} (f:α→List UInt8) (l:List α) {k:Nat} {x:α} (h:l[k]? = some x):putS (plF ((l.take k).map f)) ⟨(f x).toArray⟩ (.int .i64 (k:Int))=plF ((l.take (k+1)).map f):=by
  obtain ⟨hk,he⟩:=List.getElem?_eq_some_iff.1 h;have h1:((l.take k).map f).length=k:=by rw [List.length_map,List.length_take];omega
  have h2:=zlD ((l.take k).map f) (f x);rw [h1] at h2;rw [h2,List.take_add_one,h];simp
theorem zh1 (ins rls:List (List UInt8)) {l:List Ex} {k:Nat} {x:Ex} (h:l[k]? = some x) (m:Em):zaM ins rls (l.drop k) (k:Int) m=zaM ins rls (l.drop (k+1)) ((k+1:Nat):Int) (addE (zat ins rls 16 x m) 32 (k:Int)):=by
  obtain ⟨hk,he⟩:=List.getElem?_eq_some_iff.1 h;rw [List.drop_eq_getElem_cons hk,he]
  show zaM ins rls _ ((k:Int)+1) _=_
  rw [Int.natCast_add]
  rfl
theorem zfR (ins rls:List (List UInt8)):∀ (l:List Ex) (i:Int) (m:Em),m.code.length≤(zaM ins rls l i m).code.length
  | [],_,_=>Nat.le_refl _
  | x::xs,i,m=>by
    have h1:=zdQ ins rls 16 x m;have h2:=zfR ins rls xs (i+1) (addE (zat ins rls 16 x m) 32 i);have h3:(addE (zat ins rls 16 x m) 32 i).code.length=(zat ins rls 16 x m).code.length+1:=by unfold addE;simp
    show _≤(zaM ins rls xs (i+1) _).code.length
    omega
theorem zlU {rs:List Rl} {ins:List Sg} (h:(rulP rs ins).2.2=0):rs.length≤16∧ins.length≤64:=by
  by_cases hb:16<rs.length∨64<ins.length
  · unfold rulP at h
    rw [if_pos hb] at h
    exact absurd h (show ¬ (3:Int)=0 by decide)
  · omega
structure KB (S:Nat→Prop) (w w':World):Prop where
  os:w'.os=w.os
  tape:w'.tape=w.tape
  output:w'.output=w.output
  size:w.heap.size≤w'.heap.size
  block:∀ b,b<w.heap.size→¬ S b→w'.heap[b]? = w.heap[b]?
theorem KB.refl (S:Nat→Prop) (w:World):KB S w w:=⟨rfl,rfl,rfl,Nat.le_refl _,fun _ _ _=>rfl⟩
theorem KB.trans {S:Nat→Prop} {a b c:World} (h:KB S a b) (k:KB S b c):KB S a c:=
  ⟨k.os.trans h.os,k.tape.trans h.tape,k.output.trans h.output,Nat.le_trans h.size k.size,fun i hi hn=>(k.block i (Nat.lt_of_lt_of_le hi h.size) hn).trans (h.block i hi hn)⟩
theorem KB.of_below {S:Nat→Prop} {w w':World} (h:Below w.heap.size w w'):KB S w w':=⟨h.os,h.tape,h.output,h.size,fun b hb _=>h.block b hb⟩
theorem KB.of_grown {S:Nat→Prop} {w w':World} {row:Option Nat} (h:w.grownBy w' row) (hr:∀ b,b<w.heap.size→row=some b→S b):KB S w w':=⟨h.os,h.tape,h.output,h.size,fun b hb hn=>h.block b hb (fun q=>hn (hr b hb q.symm))⟩
theorem KB.mono {S T:Nat→Prop} {w w':World} (h:KB S w w') (hS:∀ b,b<w.heap.size→S b→T b):KB T w w':=⟨h.os,h.tape,h.output,h.size,fun b hb hn=>h.block b hb (fun q=>hn (hS b hb q))⟩
theorem KB.below {S:Nat→Prop} {w w':World} {B:Nat} (h:KB S w w') (hB:B≤w.heap.size) (hS:∀ b,S b→B≤b):Below B w w' :=
  ⟨h.os,h.tape,h.output,h.size,fun b hb=>h.block b (Nat.lt_of_lt_of_le hb hB) (fun q=>by have:=hS b q;omega)⟩
theorem zk0 {f:Nat→Ex→Option Nat} {g:Em→Ex→Em} (h:∀ left x l m,f left x=some l→(g m x).code.length+l≤m.code.length+left):∀ (ks:List Ex) (left l:Nat) (m:Em),vL f left ks=some l→(ks.foldl g m).code.length+l≤m.code.length+left
  | [],left,l,m,e=>by cases e;exact Nat.le_refl _
  | x::ks,left,l,m,e=>by
    unfold vL at e
    split at e
    · cases e
    rename_i l1 h1;have a:=h left x l1 m h1;have b:=zk0 h ks l1 l (g m x) e;rw [List.foldl_cons];omega
theorem zkZ (ins rls:List (List UInt8)):∀ (d left:Nat) (x:Ex) (l:Nat) (m:Em),vG d left x=some l→(zat ins rls d x m).code.length+l≤m.code.length+left
  | 0,_,_,_,_,e=>by cases e
  | d+1,left,.mk op n nm ks,l,m,e=>by
    have hres:zat ins rls (d+1) (.mk op n nm ks) m=za8 ins rls op n nm (ks.foldl (fun m k=>zat ins rls d k m) m):=rfl;rw [hres,zdR];unfold vG at e
    split at e
    · cases e
    rename_i hc;have:=zk0 (g:=fun m k=>zat ins rls d k m) (fun left x l m he=>zkZ ins rls d left x l m he) ks (left-1) l m e;omega
theorem zds (ins rls:List (List UInt8)):∀ (l:List Ex) (i:Int) (m:Em),(∀ x∈l,zaR x=true)→(zaM ins rls l i m).code.length≤m.code.length+61*l.length
  | [],_,_,_=>by simp [zaM]
  | x::xs,i,m,h=>by
    have h1:=h x (List.mem_cons_self ..);unfold zaR at h1;obtain ⟨l,hl⟩:=Option.isSome_iff_exists.1 h1;have a:=zkZ ins rls 16 60 x l m hl;have b:=zds ins rls xs (i+1) (addE (zat ins rls 16 x m) 32 i) (fun y hy=>h y (List.mem_cons_of_mem _ hy));have c:(addE (zat ins rls 16 x m) 32 i).code.length=(zat ins rls 16 x m).code.length+1:=by unfold addE;simp
    show (zaM ins rls xs (i+1) (addE (zat ins rls 16 x m) 32 i)).code.length≤_
    rw [List.length_cons];omega
theorem zfS {α:Type} (f:α→Value) (l:List α) (z:Value) {k:Nat} {x:α} (h:l[k]? = some x):((l.take k).map f++List.replicate (l.length-k) z).set k (f x)=(l.take (k+1)).map f++List.replicate (l.length-(k+1)) z:=by
  obtain ⟨hk,he⟩:=List.getElem?_eq_some_iff.1 h;have h1:((l.take k).map f).length=k:=by rw [List.length_map,List.length_take];omega
  have h2:l.length-k=(l.length-(k+1))+1:=by omega
  rw [List.set_append_right _ _ (by omega),h1,Nat.sub_self,h2,List.replicate_succ,List.set_cons_zero,List.take_add_one,h];simp
end Go.Proofs.YtcikenlflcofbaaGreatDoor
