/-
  The reader's levels that join operands by words.
-/
import Derived.Test.YtcikenlflcofbaaGreatDoorKRdX
import Derived.RegionDies
import Derived.Deep.RegionLaw
import Derived.Deep.LoopGhost
set_option maxRecDepth 100000
set_option maxHeartbeats 8000000
namespace Go.Proofs.YtcikenlflcofbaaGreatDoor
open Go.RowKit
structure LvM (rb:Nat) (A:Option Addr) (c:Nat) (t:List UInt8) (l:List Tok) (w0:World) (bw bo xb:Nat) (ops:List (List UInt8)) (op n:Int) (nm:List UInt8) (A':Option Addr) (c':Nat) (ks:List Ex) (s:RSt) (wr:World):Prop where
  hc:ks.length≤c'
  hm:c'≤maxLen
  hp:ExP op n nm
  rw:Rw ExV 4 wr (fun b=>w0.heap.size<b∧b<wr.heap.size∧b≠xb) A' ks.length ks
  box:XV wr xb op n nm A' ks.length c'
  res:ZB wr w0.heap.size
  jn:JnAt wr bw bo ops
  start:∃ s0,RS rb A c t l s0 w0
  left:LeftR rb A c l s w0 wr
  le:s.i≤l.length
  nb:w0.heap.size<bw∧bw<xb∧w0.heap.size<bo∧bo<xb
section
variable {rb : Nat} {A : Option Addr} {c : Nat} {t : List UInt8} {l : List Tok} {w0 : World} {bw bo xb : Nat} {ops : List (List UInt8)} {op n : Int} {nm : List UInt8} {A' : Option Addr} {c' : Nat} {ks : List Ex} {s s' : RSt} {wr wr' : World}
theorem LvM.rs (h:LvM rb A c t l w0 bw bo xb ops op n nm A' c' ks s wr):RS rb A c t l s wr:=by
  obtain ⟨s0,h0⟩:=h.start;exact h0.left h.left h.le
theorem LvM.rlt (h:LvM rb A c t l w0 bw bo xb ops op n nm A' c' ks s wr):rb<w0.heap.size:=by
  obtain ⟨s0,h0⟩:=h.start;exact h0.ltp
theorem LvM.step (h:LvM rb A c t l w0 bw bo xb ops op n nm A' c' ks s wr) (k:LeftR rb A c l s' wr wr') (hs:s'.i≤l.length):LvM rb A c t l w0 bw bo xb ops op n nm A' c' ks s' wr':=by
  have hr:=h.rlt;have hn:=h.nb;have hx:=h.box.lt;refine ⟨h.hc,h.hm,h.hp,h.rw.mono ExV.mono (fun b hb=>⟨hb.1,Nat.lt_of_lt_of_le hb.2.1 k.1.size,hb.2.2⟩) (zah k.1 fun b hb=>⟨hb.2.1,fun q=>by injection q;have:=hb.1;omega⟩),h.box.grown k.1 (fun q=>by injection q;omega),h.res.leftR k (by omega),?_,h.start,h.left.trans k,hs,hn⟩
  exact h.jn.keep (S:=fun b=>b<wr.heap.size∧b≠rb) (zah k.1 fun b hb=>⟨hb.1,fun q=>hb.2 (by injection q)⟩) ⟨by omega,by omega⟩ ⟨by omega,by omega⟩
theorem LvM.below (h:LvM rb A c t l w0 bw bo xb ops op n nm A' c' ks s wr) (k:Below wr.heap.size wr wr'):LvM rb A c t l w0 bw bo xb ops op n nm A' c' ks s wr':=h.step ((LeftR.refl h.rs).below k) h.le
theorem LvM.join (h:LvM rb A c t l w0 bw bo xb ops op n nm A' c' ks s wr) {opn op2 n2:Int} {nm2:List UInt8} {A2:Option Addr} {c2:Nat} {ks2:List Ex} {S:Nat→Prop} {b:Nat} (hop:(Lit.int .i64 opn).wf=true)
    (k1:ks2.length≤c2) (k2:c2≤maxLen) (k3:ExP op2 n2 nm2) (hy:Rw ExV 4 wr S A2 ks2.length ks2) (hS:∀ b,S b→xb<b∧b<wr.heap.size)
    (hb:Below wr.heap.size wr wr') (hb1:wr.heap.size≤b) (hb2:b<wr'.heap.size) (hh:wr'.heap[b]? = some (zcy op n nm A' ks.length c' op2 n2 nm2 A2 ks2.length c2)) :
    LvM rb A c t l w0 bw bo xb ops opn 0 [] (some ⟨b,0,none⟩) 2 [.mk op n nm ks,.mk op2 n2 nm2 ks2] s (set4 wr' xb (.int .i64 opn) (.int .i64 0) (.string ⟨#[]⟩) (.slice (some ⟨b,0,none⟩) 2 2)):=by
  have hr:=h.rlt;have hn:=h.nb;have hx:=h.box.lt;have g:=zaD wr' xb (.int .i64 opn) (.int .i64 0) (.string ⟨#[]⟩) (.slice (some ⟨b,0,none⟩) 2 2);have z:=zaz wr' xb (.int .i64 opn) (.int .i64 0) (.string ⟨#[]⟩) (.slice (some ⟨b,0,none⟩) 2 2);have x1:=h.box.grown (zap (row:=Option.none) hb) (by simp);have hV:=zb6 x1.heap (.int .i64 opn) (.int .i64 0) (.string ⟨#[]⟩) (.slice (some ⟨b,0,none⟩) 2 2);have hL:=(h.left.below hb).put (b:=xb) (by omega) (by omega) (.int .i64 opn) (.int .i64 0) (.string ⟨#[]⟩) (.slice (some ⟨b,0,none⟩) 2 2);have hs:=hb.size;generalize set4 wr' xb (.int .i64 opn) (.int .i64 0) (.string ⟨#[]⟩) (.slice (some ⟨b,0,none⟩) 2 2)=V at *;have kV:KeepOn (fun b=>b<wr.heap.size∧b≠xb) wr V:=(zab hb fun b q=>q.1).trans (zah g fun b q=>⟨by omega,fun e=>q.2 (by injection e)⟩);refine ⟨Nat.le_refl _,by unfold maxLen;decide,⟨hop,by decide,by simp⟩,?_,⟨hV⟩,⟨(kV _ ⟨by omega,by omega⟩).trans (XV.heap h.res)⟩,h.jn.keep kV ⟨by omega,by omega⟩ ⟨by omega,by omega⟩,h.start,hL,h.le,hn⟩
  refine zhj ((g.block b hb2 (fun e=>by injection e;omega)).trans hh) (ExV.mk h.hc h.hm h.hp (h.rw.mono ExV.mono (fun b q=>⟨q.1,by omega,q.2.2⟩) (kV.mono fun b q=>⟨q.2.1,q.2.2⟩))) (ExV.mk k1 k2 k3 (hy.mono ExV.mono (fun b q => ?_) (kV.mono fun b q => ?_))) ⟨by omega,by omega,by omega⟩
  · have:=hS b q
    exact ⟨by omega,by omega,by omega⟩
  · have:=hS b q
    exact ⟨by omega,by omega⟩
end
def LvR (rb:Nat) (A:Option Addr) (c:Nat) (t:List UInt8) (l:List Tok) (w0:World) (bw bo xb:Nat) (ops:List (List UInt8)) (e:RSt→Option (Ex × RSt)) (y:Ex) (s':RSt) (k:Nat) (v:Value) (wr:World):Prop:=
  ∃ op n nm A' c' ks s m,v = .bool m∧((m=true∧zgC l e ops k (.mk op n nm ks) s=some (y,s'))∨(m=false∧y = .mk op n nm ks∧s'=s))∧LvM rb A c t l w0 bw bo xb ops op n nm A' c' ks s wr
def LiR (rb:Nat) (A:Option Addr) (c:Nat) (t:List UInt8) (l:List Tok) (w0:World) (bw bo xb:Nat) (ops:List (List UInt8)) (op n:Int) (nm:List UInt8) (A':Option Addr) (c':Nat) (ks:List Ex) (s:RSt) (k:Nat) (v8 v:Value) (wq:World):Prop:=
  ∃ j:Nat,j≤ops.length∧ops.length-j<k∧v8 = .bool false∧v = .int .i64 (j:Int)∧(∀ i x,i<j→ops[i]? = some x→hitR l s x=false)∧LvM rb A c t l w0 bw bo xb ops op n nm A' c' ks s wq
theorem zet {l:List Tok} {s:RSt}:∀ {ops:List (List UInt8)},(∀ (i:Nat) x,i<ops.length→ops[i]? = some x→hitR l s x=false)→zdA l s ops=none
  | [],_=>rfl
  | w::ws,h=>by
    unfold zdA;rw [if_neg (by rw [h 0 w (by simp) rfl];decide)];exact zet fun i x hi hx=>h (i+1) x (by simp;omega) hx
theorem zeu {l:List Tok} {s:RSt}:∀ {ops:List (List UInt8)} {j:Nat} {x:List UInt8},(∀ (i:Nat) x,i<j→ops[i]? = some x→hitR l s x=false)→ops[j]? = some x→hitR l s x=true→zdA l s ops=some x
  | [],_,_,_,h,_=>by cases h
  | w::ws,0,x,_,h,hx=>by
    cases h
    unfold zdA;rw [if_pos hx]
  | w::ws,j+1,x,h,hj,hx=>by
    unfold zdA;rw [if_neg (by rw [h 0 w (by omega) rfl];decide)];exact zeu (fun i y hi hy=>h (i+1) y (by omega) hy) hj hx
theorem zc5 {rb:Nat} {A:Option Addr} {c:Nat} {t:List UInt8} {l:List Tok} {n:Int} {ops:List (List UInt8)} (hn:zkN n ops) {e:RSt→Option (Ex × RSt)} (hP:zew rb A c t l (n+1) e) (g:Nat):zew rb A c t l n (zde l e ops g):=by
  intro s w y s' hs hr;obtain ⟨x,s1,h1,h2⟩:=zbk hr;have hb0:=zaa w (Obj.cells #[.int .i64 0,.int .i64 0,.string ⟨#[]⟩,.slice Option.none 0 0] 48);have hZ:=ZB.new w;have hrl:=hs.ltp;have C1:=fun W=>ziL hn W
  obtain ⟨hn0,hn4,hn3,hn5,hol⟩:0≤n∧n≤4∧(n == 3)=false∧(n == 5)=false∧ops.length≤2:=by
    rcases hn with ⟨rfl,rfl⟩ | ⟨rfl,rfl⟩ | ⟨rfl,rfl⟩ | ⟨rfl,rfl⟩ <;> decide
  have HN:=Hi hn;have HP:=Hi hP;have HS:=Hi hs;have HZ:=Hi hZ;have HB0:=Hi hb0;have H1:=Hi h1;have H2:=Hi h2;have HC1:=Hi C1;clear hn hP hs hr hZ hb0 h1 h2 C1;go_enter Tryz.func68,Tryz.ntmps68;go_wp2_with fail
  refine (HC1.out _).mono ?_
  rintro e' w1 ⟨bw,bo,rfl,hj,hjb,hjo,hb1⟩
  have HB1:=Hi (zac HB0.out hb1 HB0.out.size);have HZ1:=Hi (HZ.out.below hb1);have HJ1:=Hi hj;have HS1:=Hi (HS.out.below HB1.out);have hs1:=HB1.out.size;simp only [World.size_alloc] at hjb hjo;clear hb1 hj HB0 HZ HC1;go_wp2_with fail
  refine (HP.out _ _ _ _ HS1.out H1.out).mono ?_
  rintro e' w2 ⟨op,nn,nm,A1,c1,ks,rfl,rfl,hc1,hm1,hp1,hr1,hl1,hi1⟩
  unfold exV;have HL1:=Hi hl1;have HR1:=Hi hr1;have hs2:=hl1.1.size;have hjl:=HJ1.out.lt;have hzl:=XV.lt HZ1.out;clear hl1 hr1;go_wp2_with fail
  go_loopg [8] g (fun k v wr=>LvR rb A c t l w bw bo w2.heap.size ops e y s' k v wr)
  case atStart =>
    have hbx:=zaa w2 (Obj.cells #[.int .i64 op,.int .i64 nn,.string ⟨nm.toArray⟩,.slice A1 ks.length c1] 48);have hL2:=(LeftR.pre HB1.out HL1.out).below hbx;refine ⟨op,nn,nm,A1,c1,ks,s1,true,rfl,.inl ⟨rfl,H2.out⟩,hc1,hm1,hp1,?_,XV.new w2 op nn nm A1 ks.length c1,(HZ1.out.leftR HL1.out (by omega)).below hbx,?_,⟨s,HS.out⟩,hL2,hi1,by omega⟩
    · refine HR1.out.mono ExV.mono (fun b hb => ?_) (zab hbx fun b hb=>hb.2)
      have h1:=hb.1
      have h2:=hb.2
      simp only [World.size_alloc]
      omega
    · exact (HJ1.out.keep (S:=fun b=>b<w1.heap.size∧b≠rb) (zah HL1.out.1 fun b hb=>⟨hb.1,fun q=>hb.2 (by injection q)⟩) ⟨by omega,by omega⟩ ⟨by omega,by omega⟩).keep (zab hbx fun b hb=>hb) (by omega) (by omega)
  case round =>
    clear HL1 HR1 HJ1 HZ1 HS1 H1 H2 HB1;obtain ⟨op,nn,nm,A1,c1,ks,s,m,rfl,hm,hM⟩:=hrel;have hlx:=hM.box.lt
    rcases hm with ⟨rfl,hm⟩ | ⟨rfl,rfl,rfl⟩
    case inr =>
      obtain ⟨x0,x1,x2,x3,-,-,-,-⟩:=hM.box.cells;obtain ⟨q0,q1,q2,q3,z0,z1,z2,z3⟩:=XV.cells hM.res;obtain ⟨p0,p1,p2,p3,-,-,-⟩:=hM.rs.cells;have hzl:=XV.lt hM.res;have hpl:=hM.rs.ltp;have HPT:=Hi (zak hM.res op nn nm A1 ks.length c1);have HM:=Hi hM;clear hM HP;go_wp2
      change bodyPost _ _ _ _ _ (set4 wr w.heap.size (.int .i64 op) (.int .i64 nn) (.string ⟨nm.toArray⟩) (.slice A1 ks.length c1))
      obtain ⟨r0,r1,r2,r3,-,-,-,-⟩:=HPT.out.cells;refine bodyPost_ret (v:=exV op nn nm A1 ks.length c1) (by simp [results,Tryz.results68,go_sem,exV,r0,r1,r2,r3]) rfl ?_
      exact RetXR.put (S:=fun b=>w.heap.size<b∧b<wr.heap.size∧b≠w2.heap.size) HM.out.hc HM.out.hm HM.out.hp HM.out.rw (fun b hb=>⟨hb.1,hb.2.1⟩) HM.out.left HM.out.le hrl
    cases gk with
    | zero=>cases hm
    | succ g' =>
    unfold zgC at hm;obtain ⟨si,sb,sl⟩:=s
    cases sb with
    | true =>
      rw [if_pos rfl] at hm;obtain ⟨rfl,rfl⟩:Ex.mk op nn nm ks=y∧⟨si,true,sl⟩=s':=by injection hm with hm;injection hm with a b;exact ⟨a,b⟩
      obtain ⟨x0,x1,x2,x3,-,-,-,-⟩:=hM.box.cells;obtain ⟨q0,q1,q2,q3,z0,z1,z2,z3⟩:=XV.cells hM.res;obtain ⟨p0,p1,p2,p3,-,-,-⟩:=hM.rs.cells;have hzl:=XV.lt hM.res;have hpl:=hM.rs.ltp;have HPT:=Hi (zak hM.res op nn nm A1 ks.length c1);have HM:=Hi hM;clear hM HP hm;go_wp2
      change bodyPost _ _ _ _ _ (set4 wr w.heap.size (.int .i64 op) (.int .i64 nn) (.string ⟨nm.toArray⟩) (.slice A1 ks.length c1))
      obtain ⟨r0,r1,r2,r3,-,-,-,-⟩:=HPT.out.cells;refine bodyPost_ret (v:=exV op nn nm A1 ks.length c1) (by simp [results,Tryz.results68,go_sem,exV,r0,r1,r2,r3]) rfl ?_
      exact RetXR.put (S:=fun b=>w.heap.size<b∧b<wr.heap.size∧b≠w2.heap.size) HM.out.hc HM.out.hm HM.out.hp HM.out.rw (fun b hb=>⟨hb.1,hb.2.1⟩) HM.out.left HM.out.le hrl
    | false =>
      rw [if_neg Bool.false_ne_true] at hm;obtain ⟨p0,p1,p2,p3,-,-,-⟩:=hM.rs.cells;have hpl:=hM.rs.ltp;have HM:=Hi hM;have HMR:=Hi hm;clear hM hm;dsimp only at p0 p1 p2 p3;go_wp2;go_loopg [8,39] (ops.length+1) (fun k v8 v wq=>LiR rb A c t l w bw bo w2.heap.size ops op nn nm A1 c1 ks ⟨si,false,sl⟩ k v8 v wq)
      case atStart=>exact ⟨0,Nat.zero_le _,by omega,rfl,rfl,fun i x hi=>absurd hi (Nat.not_lt_zero _),HM.out⟩
      case round =>
        clear HM p0 p1 p2 p3
        rename World=>wq
        obtain ⟨j,hj,hjk,rfl,rfl,hall,hM⟩:=hrel;have HALL:=Hi hall;have hwq:=hM.box.lt;clear hall
        by_cases hlt:j<ops.length
        case neg =>
          obtain rfl:j=ops.length:=by omega
          have hm:=HMR.out;rw [zet HALL.out] at hm;obtain ⟨rfl,rfl⟩:Ex.mk op nn nm ks=y∧⟨si,false,sl⟩=s':=by injection hm with hm;injection hm with a b;exact ⟨a,b⟩
          have HM:=Hi hM;clear hM hm;go_wp2;go_roundg g'
          case measure=>omega
          case rel=>exact ⟨op,nn,nm,A1,c1,ks,_,false,rfl,.inr ⟨rfl,rfl,rfl⟩,HM.out⟩
        obtain ⟨wd,hwd⟩:∃ wd,ops[j]? = some wd:=⟨_,List.getElem?_eq_getElem hlt⟩;have y0:=hM.jn.word hwd;have hjl2:=hM.jn.lt;have HCE:=Hi (zcQ wd hM.rs);have HM:=Hi hM;have HWD:=Hi hwd;clear hM hwd
        have hle4:(if hitR l ⟨si,false,sl⟩ wd=true then zbO ⟨si,false,sl⟩ else ⟨si,false,sl⟩:RSt).i≤l.length:=by
          split
          · exact (zg1 ‹_›).1
          · exact HM.out.le
        cases hq:hitR l ⟨si,false,sl⟩ wd with
        | false =>
          rw [hq] at HCE hle4;have HQ:=Hi hq;clear hq;go_wp2_with fail
          refine HCE.out.mono ?_
          rintro e' w4 ⟨rfl,hl4⟩
          have HM4:=Hi (HM.out.step hl4 hle4);clear hl4 HM HCE y0;go_wp2;go_roundg (ops.length-j)
          case measure=>omega
          case rel=>exact ⟨j+1,by omega,by omega,rfl,by go_num,fun i x hi hx=>by
            rcases Nat.lt_succ_iff_lt_or_eq.1 hi with q | rfl
            · exact HALL.out i x q hx
            · rw [HWD.out] at hx;cases hx;exact HQ.out,HM4.out⟩
        | true =>
          rw [hq,if_pos rfl] at hle4;rw [hq,if_pos rfl] at HCE;have hm:=HMR.out;rw [zeu HALL.out HWD.out hq] at hm;obtain ⟨z,s2,h1,h2⟩:=zbk hm;have H1:=Hi h1;have H2:=Hi h2;clear hq hm h1 h2 HMR;go_wp2_with fail
          refine HCE.out.mono ?_
          rintro e' w4 ⟨rfl,hl4⟩
          have hM4:=HM.out.step hl4 hle4;have HM4:=Hi hM4;have HM4d:=Hi (hM4.below (zad (Below.refl _ _)));have HCL:=Hi (HP.out _ _ _ _ HM4d.out.rs H1.out);obtain ⟨x0,x1,x2,x3,-,-,-,-⟩:=hM4.box.cells;have o0:=hM4.jn.op HWD.out;have hlx4:=hM4.box.lt;have hjl4:=hM4.jn.lt;clear hl4 HM HCE y0 hM4;go_wp2;have HOP:=Hi (zg6 wd).1;have HWR:=Hi (show IntKind.i64.wrap (n+1)=n+1 from IntWalk.i64_in _ ⟨by omega,by omega⟩);obtain ⟨opn,hopn⟩:∃ opn,zal wd=opn:=⟨_,rfl⟩;have HOPN:=Hi hopn;rw [hopn] at o0 HOP H2;clear hopn;clear hjl2
          go_region_law
            (first
             | ((go_simp;go_at_call 88;refine (HT2.out _).mono ?_;rintro e' w6 ⟨b6,rfl,hb6,hb61,hb62,hh6⟩;unfold exV;have M6:=HM5.out.below hb6;have s0:=M6.box.cells.2.2.2.2.1;have s1:=M6.box.cells.2.2.2.2.2.1;have s2':=M6.box.cells.2.2.2.2.2.2.1;have s3:=M6.box.cells.2.2.2.2.2.2.2;have c0:=M6.box.cells.1;have c1':=M6.box.cells.2.1;have c2':=M6.box.cells.2.2.1;have c3:=M6.box.cells.2.2.2.1;have hlx6:=M6.box.lt;have HB6:=Hi hb6;have HH6:=Hi hh6;clear hb6 hh6 M6))
             | ((go_simp;go_at_call 68;rw [HWR.out];refine HCL.out.mono ?_;rintro e' w5 ⟨op2,n2,nm2,A2,c2,ks2,rfl,rfl,hc2,hm2,hp2,hr2,hl2,hi2⟩;unfold exV;have M5:=HM4d.out.step hl2 hi2;have HM5:=Hi M5;have x50:=M5.box.cells.1;have x51:=M5.box.cells.2.1;have x52:=M5.box.cells.2.2.1;have x53:=M5.box.cells.2.2.2.1;have o5:=M5.jn.op HWD.out;rw [HOPN.out] at o5;have hlx5:=M5.box.lt;have hjl5:=M5.jn.lt;have HR2:=Hi hr2;have hs5:=hl2.1.size;have HT2:=Hi (fun W=>zjG opn op nn nm A1 ks.length c1 op2 n2 nm2 A2 ks2.length c2 W);clear hr2 hl2 M5)))
          all_goals
            go_wp2;go_roundg g'
            case measure=>omega
            case rel =>
              refine ⟨opn,0,[],some ⟨b6,0,none⟩,2,_,s2,true,rfl,.inl ⟨rfl,H2.out⟩,?_⟩
              exact HM5.out.join HOP.out hc2 hm2 hp2 HR2.out (fun b hb=>⟨Nat.lt_of_lt_of_le hlx4 hb.1,hb.2⟩) HB6.out hb61 hb62 HH6.out
end Go.Proofs.YtcikenlflcofbaaGreatDoor
