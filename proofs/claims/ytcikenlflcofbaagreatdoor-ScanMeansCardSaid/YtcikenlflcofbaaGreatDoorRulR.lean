/-
  The reference's Rules.
-/
import Derived.Test.YtcikenlflcofbaaGreatDoorRulW
import Derived.Test.YtcikenlflcofbaaGreatDoorKRdP
import Derived.Test.YtcikenlflcofbaaGreatDoorKRdQ
set_option maxRecDepth 100000
set_option maxHeartbeats 8000000
namespace Go.Proofs.YtcikenlflcofbaaGreatDoor
open Go.RowKit
theorem zgK {x:Ex} (h:zaR x=true) (d:Nat) (hd:inG d x):szG d x≤1000000000000000000:=by
  have:=zhq hd;rw [h] at this;have h2:=this.symm;simp only [Bool.and_eq_true,decide_eq_true_eq] at h2;omega
structure EnO (w:World) (base:Nat) (T:Nat→Prop) (v7 v8:Value) (env:List Sg):Prop where
  own:w.ownsRow base 40 2 v7 env.length (env.flatMap zbH)
  fit:∀ s∈env,s.nm.length≤maxLen∧(Lit.int .i64 s.kind).wf=true
  apart:∀ g,v7.ownBlock=some g→v8.ownBlock≠some g∧¬ T g
theorem EnO.row {w:World} {base:Nat} {T:Nat→Prop} {A:Option Addr} {n c:Nat} {v8:Value} {env:List Sg} (h:EnO w base T (.slice A n c) v8 env) (hn:env.length=n):Rw SgC 2 w (fun b=>b<w.heap.size) A n env:=by
  subst hn;exact Rw.of_own (f:=zbH) h.own rfl (fun _ _=>rfl) (fun s hs=>⟨rfl,h.fit s hs⟩) (fun _ _ q=>q)
theorem EnO.below {w w':World} {base B:Nat} {T:Nat→Prop} {v7 v8:Value} {env:List Sg} (h:EnO w base T v7 v8 env) (hb:Below B w w') (hB:w.heap.size≤B):EnO w' base T v7 v8 env:=⟨zbg h.own hb hB,h.fit,h.apart⟩
def QrR (w:World) (base:Nat) (rs:List Rl) (ins:List Sg) (g:Nat) (v7 v8 v36:Value) (wr:World):Prop:=
  ∃ k env l T,k≤rs.length∧rs.length-k<g∧v36 = .int .i64 ((k:Nat):Int)∧rulG (rs.drop k) env l k=rulG rs ins [] 0∧env.length=ins.length+k∧l.length=k ∧
    EnO wr base T v7 v8 env∧XOwn wr base T v8 l∧base≤wr.heap.size∧Below w.heap.size w wr∧zbn env=true∧∀ x∈l,zaR x=true
theorem XOwn.apart {w w':World} {base:Nat} {T:Nat→Prop} {v:Value} {xs:List Ex} {row:Option Nat} (h:XOwn w base T v xs) (hg:w.grownBy w' row) (hr:∀ g,row=some g→v.ownBlock≠some g∧¬ T g):XOwn w' base T v xs:=by
  obtain ⟨ls,h1,h2,h3,h4⟩:=h;exact ⟨ls,h1,zam h2 (fun g e hgs=>hg.block g hgs (fun he=>(hr g he.symm).1 e)),fun k l x hl hx=>ExV.mono _ _ _ _ _ _ (fun _ q=>q) (zah hg fun b hb=>⟨(h4 b hb).2.1,fun he=>(hr b he.symm).2 hb⟩) (h3 k l x hl hx),fun b hb=>⟨(h4 b hb).1,Nat.lt_of_lt_of_le (h4 b hb).2.1 hg.size,(h4 b hb).2.2⟩⟩
def QkR (W:World) (env:List Sg) (l:List Ex) (g:Nat) (v:Value) (wr:World):Prop:=
  ∃ k:Nat,k≤l.length∧l.length-k<g∧v = .int .i64 (k:Int)∧kndG env (l.drop k) k=kndG env l 0∧Below W.heap.size W wr
def QnR (W0:World) (env:List Sg) (nm:List UInt8) (g:Nat) (v:Value) (wr:World):Prop:=
  ∃ j:Nat,j≤env.length∧env.length-j<g∧v = .int .i64 (j:Int)∧(∀ i y,i<j→env[i]? = some y→y.nm≠nm)∧Below W0.heap.size W0 wr
theorem zhC {env:List Sg} {j:Nat} {y:Sg} (hy:env[j]? = some y):(zay env y.nm).isSome=true:=by
  unfold zay;have hm:y∈env:=List.mem_of_getElem? hy
  cases hf:env.find? fun x=>decide (x.nm=y.nm) with
  | none=>have:=List.find?_eq_none.1 hf y hm;simp at this
  | some z=>rfl
theorem zgt {env:List Sg} {nm:List UInt8} (h:∀ (i:Nat) y,i<env.length→env[i]? = some y→y.nm≠nm):zay env nm=none:=by
  have:=zcj (k:=env.length) h;rw [List.take_length] at this
  cases hk:zay env nm with
  | none=>rfl
  | some v=>rw [hk] at this;cases this
theorem zeK (A:Option Addr) (c:Nat) (rs:List Rl) (A':Option Addr) (c':Nat) (ins:List Sg) (w:World) (hr:Rw RlC 2 w (fun b=>b<w.heap.size) A rs.length rs)
    (hc':ins.length≤c') (hm':c'≤maxLen) (hr':Rw SgC 2 w (fun b=>b<w.heap.size) A' ins.length ins) :
    Calls Tryz.prog 7 #[.slice A rs.length c,.slice A' ins.length c'] w (RetRul rs ins w):=by
  have HR:=Hi hr;have HRI:=Hi hr';have HT:=Hi (zf7 A' c' ins w hc' hm' hr')
  have HP:=Hi (show rulP rs ins=if 16<rs.length∨64<ins.length then ([],0,3) else if zbn ins=false then ([],0,1) else match rulG rs ins [] 0 with
    | .error (i,e)=>([],i,e)
    | .ok (env,l)=>match kndG env l 0 with
      | some (i,e)=>([],i,e)
      | none=>(l,0,0) from rfl)
  unfold maxLen at hm';clear hr hr'
  by_cases hbig:16<rs.length∨64<ins.length
  · have HE:=Hi (HP.out.trans (if_pos hbig))
    have hcs:(16:Int)<(rs.length:Int)∨¬ (16:Int)<(rs.length:Int)∧(64:Int)<(ins.length:Int):=by omega
    clear hbig
    rcases hcs with d0 | ⟨d0,d1⟩
    all_goals
      go_enter Tryz.func7,Tryz.ntmps7
      go_wp2
      exact bodyPost_ret (v := .tuple #[.slice Option.none 0 0,.int .i64 0,.int .i64 3]) (by simp [results,Tryz.results7,go_sem]) rfl (RetRul.none HE.out (Below.refl _ _))
  have d0:¬ (16:Int)<(rs.length:Int):=by omega
  have d1:¬ (64:Int)<(ins.length:Int):=by omega
  have hP2:=HP.out.trans (if_neg hbig);have HP2:=Hi hP2;have hrl:rs.length≤16:=by omega
  have hil:ins.length≤64:=by omega
  clear hP2 HP hbig
  cases hg:zbn ins with
  | false =>
    rw [hg] at HT;have HE:=Hi (HP2.out.trans (if_pos hg));clear hg;go_enter Tryz.func7,Tryz.ntmps7;go_wp2_with fail
    refine HT.out.mono ?_
    rintro e w1 ⟨rfl,hb1⟩
    go_wp2;exact bodyPost_ret (v := .tuple #[.slice Option.none 0 0,.int .i64 0,.int .i64 1]) (by simp [results,Tryz.results7,go_sem]) rfl (RetRul.none HE.out hb1)
  | true =>
  rw [hg] at HT;have HP3:=Hi (HP2.out.trans (if_neg (by rw [hg];decide)));have HGD:=Hi hg;clear hg HP2;go_enter Tryz.func7,Tryz.ntmps7;go_wp2_with fail
  refine HT.out.mono ?_
  rintro e w1 ⟨rfl,hb1⟩
  have hs1:=hb1.size;have HB1:=Hi hb1;obtain ⟨i0,hi0,hz0,hz1,hz2⟩:=info_parts zkX;have on1:=Hi (zen ins);have m1:0+ins.length≤maxLen:=by unfold maxLen;omega
  have m2:(0+ins.length)*24≤140737488355328:=by omega
  have o1:(w1.alloc (Obj.cells #[] 40)).ownsRow w1.heap.size 40 2 (.slice (some ⟨w1.heap.size,0,none⟩) 0 0) 0 []:=World.ownsRow_lit (base:=w1.heap.size) (e := 40) (size:=2) w1 #[] 0 (Nat.le_refl _) (Nat.zero_le _) rfl;have bI:=zac hb1 (zaa w1 (Obj.cells #[] 40)) hb1.size;have hrI:=HRI.out.mono (S':=fun b=>b<w.heap.size) SgC.mono (fun _ q=>q) (zab bI fun _ q=>q);have s1:=zk3 (f:=zbH) hrI (fun cs x h=>h.1) (fun x _=>rfl);have z1:w1.heap.size≤(w1.alloc (Obj.cells #[] 40)).heap.size:=by rw [World.size_alloc];omega
  have hfit:∀ s∈ins,s.nm.length≤maxLen∧(Lit.int .i64 s.kind).wf=true:=by
    intro s hs;obtain ⟨j,hj,rfl⟩:=List.getElem_of_mem hs;obtain ⟨b,o,cs,x,e,hb,hx,_,⟨_,h1,h2⟩,hat⟩:=HRI.out.at_ hj;rw [List.getElem?_eq_getElem hj] at hx;injection hx with hx
    rw [hx];exact ⟨h1,h2⟩
  have HO1:=Hi o1;have HS1:=Hi s1;have HFIT:=Hi hfit;have HI:=Hi (And.intro hi0 (And.intro hz0 (And.intro hz1 hz2)));clear hb1 o1 s1 hfit hrI hi0 hz0 hz1 hz2 HT;go_wp2_with (at_builtin;refine zaj (o:=⟨some 33,_,_,_,_,_⟩) (w:=w1.alloc (Obj.cells #[] 40)) _ _ 23 rfl rfl Tryz.underlying23 HI.out.1 HI.out.2.1 HI.out.2.2.1 HI.out.2.2.2 rfl (by decide) rfl HO1.out rfl HS1.out on1.out m1 m2 z1 ?_;intro v7 w7 hown7 hg7 hv7)
  have HG7:=Hi (show (w1.alloc (Obj.cells #[] 40)).grownBy w7 (Value.slice (some ⟨w1.heap.size,0,none⟩) 0 0).ownBlock from hg7)
  have hb7:Below w.heap.size w w7:=bI.grown hg7 (by have:=bI.size;exact this) (fun j hj=>by
    have:some w1.heap.size=some j:=hj
    cases this
    exact hs1)
  have hs7:=hg7.size;rw [World.size_alloc] at hs7;have hen:EnO w7 w1.heap.size (fun _=>False) v7 (.slice Option.none 0 0) ins:=⟨by simpa using hown7,HFIT.out,fun g hg=>⟨(by intro q;cases q),fun q=>q⟩⟩;have HEN:=Hi hen;have HB7:=Hi hb7;clear hown7 hg7 hv7 hb7 hen bI HS1 HO1 HFIT HG7;obtain ⟨A70,c70,rfl,-,-⟩:=zag HEN.out.own;go_wp2;go_loopg [7,8,36] (rs.length+1) (fun g v7 v8 v36 wr=>QrR w w1.heap.size rs ins g v7 v8 v36 wr)
  case atStart=>exact ⟨0,ins,[],fun _=>False,Nat.zero_le _,by omega,rfl,by rw [List.drop_zero];rfl,rfl,rfl,HEN.out,XOwn.nil _ _,by omega,HB7.out,HGD.out,fun x hx=>by cases hx⟩
  case round =>
    clear HEN HB7;obtain ⟨k,env,l,T,hk,hgk,rfl,hru,hel,hll,hen,hown,hbs,hbel,hgd,hval⟩:=hrel;obtain ⟨A4,c4,rfl,hc4,hm4⟩:=hown.shape;obtain ⟨A7,c7,rfl,hc7,hm7⟩:=zag hen.own;have HEL:=Hi hel;have HLL:=Hi hll;have HOW:=Hi hown;have HEN:=Hi hen;have HVAL:=Hi hval;have HGE:=Hi hgd;have hl16:l.length≤16:=by omega
    have he80:env.length≤80:=by omega
    clear hel hll hown hen hval hgd
    by_cases hlt:k<rs.length
    case neg =>
      obtain rfl:k=rs.length:=by omega
      rw [List.drop_length] at hru;have hP4:=HP3.out;rw [← hru] at hP4;have HP4:=Hi (show rulP rs ins=match kndG env l 0 with | some (i,e)=>([],i,e) | none=>(l,0,0) from hP4);have HB:=Hi hbel;clear hru hP4 HP3 hlt hbel;go_wp2;go_loopg [83] (l.length+1) (fun g v wq=>QkR wr env l g v wq)
      case atStart=>exact ⟨0,Nat.zero_le _,by omega,rfl,by rw [List.drop_zero];rfl,Below.refl _ _⟩
      case round =>
        rename World=>wq
        obtain ⟨j,hj,hgj,rfl,hkn,hbq⟩:=hrel;have HBQ:=Hi (zac HB.out hbq HB.out.size);have HOQ:=Hi (HOW.out.below hbq (Nat.le_refl _));have HEQ:=Hi (HEN.out.below hbq (Nat.le_refl _))
        by_cases hjl:j<l.length
        case neg =>
          obtain rfl:j=l.length:=by omega
          rw [List.drop_length] at hkn;have hP5:=HP4.out;rw [← hkn] at hP5;have HP5:=Hi (show rulP rs ins=(l,0,0) from hP5);clear hkn hP5 HP4 hbq hjl;go_wp2;exact bodyPost_ret (v := .tuple #[.slice A4 l.length c4,.int .i64 0,.int .i64 0]) (by simp [results,Tryz.results7,go_sem]) rfl ⟨_,l,0,0,T,HP5.out,rfl,HOQ.out.base hs1,HBQ.out⟩
        obtain ⟨b,o,op,m,nm,A5,c5,ys,hA,hSb,hx,hyc,hym,hyp,hyr,hxb⟩:=exAt (HOQ.out.rw (S:=fun b=>b<wq.heap.size) rfl fun b _ h=>h) hjl;subst hA
        have hget:l[j] = .mk op m nm ys:=by
          rw [List.getElem?_eq_getElem hjl] at hx;injection hx
        rw [List.drop_eq_getElem_cons hjl,hget] at hkn;rw [zfQ] at hkn;have hv:=HVAL.out _ (List.mem_of_getElem? hx);obtain ⟨e0,e1,e2,e3⟩:=hxb;have hbw:=zaa wq (Obj.cells #[.int .i64 op,.int .i64 m,.string ⟨nm.toArray⟩,.slice A5 ys.length c5] 48);have hX:=XV.new wq op m nm A5 ys.length c5;have hXI:XI wq op m nm A5 c5 ys:=⟨hyc,hym,hyp,hyr⟩;have C3:=zhT (hXI.below hbw) (fun d hd=>zgK hv d hd) A7 c7 env hc7 hm7 ((HEQ.out.below hbw (Nat.le_refl _)).row rfl);rw [show zix (.mk op m nm ys) env=chkG env 16 (.mk op m nm ys) from if_neg (by rw [HGE.out,hv];rintro (q | q) <;> cases q)] at C3;have HC3:=Hi C3;have HBW:=Hi (zac HBQ.out hbw HBQ.out.size);have HBW2:=Hi (zac hbq hbw hbq.size);have HKN:=Hi hkn;obtain ⟨x0,x1,x2,x3,-,-,-,-⟩:=hX.cells;clear hkn hx hget hv hbw C3 hX hbq hyr hXI;generalize hq:chkG env 16 (.mk op m nm ys)=q at *;obtain ⟨q1,q2⟩:=q;dsimp only at HKN HC3;clear hq;go_wp2_with fail
        refine HC3.out.mono ?_
        rintro e w3 ⟨rfl,hb3⟩
        have HB3:=Hi (zac HBW.out hb3 HBW.out.size);have HB4:=Hi (zac HBW2.out hb3 HBW2.out.size);clear hb3 HC3;dsimp only;have hkn:=HKN.out;have hP5:=HP4.out
        by_cases h2:q2=0
        case neg =>
          rw [if_pos h2] at hkn;rw [← hkn] at hP5;have HP5:=Hi (show rulP rs ins=([],(j:Int),q2) from hP5);have k2:(q2 != 0)=true:=by simp [h2]
          clear hkn hP5 HP4 HKN h2;go_wp2;exact bodyPost_ret (v := .tuple #[.slice Option.none 0 0,.int .i64 (j:Int),.int .i64 q2]) (by simp [results,Tryz.results7,go_sem]) rfl (RetRul.none HP5.out HB3.out)
        rw [if_neg (by simp [h2])] at hkn;have k2:(q2 != 0)=false:=by simp [h2]
        by_cases h1:q1=1
        case neg =>
          rw [if_pos h1] at hkn;rw [← hkn] at hP5;have HP5:=Hi (show rulP rs ins=([],(j:Int),10) from hP5);have k1:(q1 != 1)=true:=by simp [h1]
          clear hkn hP5 HP4 HKN h1 h2;go_wp2;exact bodyPost_ret (v := .tuple #[.slice Option.none 0 0,.int .i64 (j:Int),.int .i64 10]) (by simp [results,Tryz.results7,go_sem]) rfl (RetRul.none HP5.out HB3.out)
        rw [if_neg (by simp [h1])] at hkn;have k1:(q1 != 1)=false:=by simp [h1]
        have HKN2:=Hi hkn;clear hkn hP5 HKN h1 h2;go_wp2;go_roundg (l.length-j)
        case measure=>omega
        case rel=>exact ⟨j+1,by omega,by omega,by go_num,HKN2.out,HB4.out⟩
    obtain ⟨b,o,r,hA,hSb,hx,hxl,htl,y0,y1⟩:=rlAt (HR.out.mono RlC.mono (fun _ q=>q) (zab hbel fun _ q=>q)) hlt;subst hA
    have hget:rs[k]=r:=by
      rw [List.getElem?_eq_getElem hlt] at hx;injection hx
    rw [List.drop_eq_getElem_cons hlt,hget] at hru;rw [zf9] at hru;obtain ⟨nm,tx⟩:=r;dsimp only at hxl htl y0 y1 hru;have hbk:b<wr.heap.size:=Nat.lt_of_lt_of_le hSb hbel.size;have hbx:=zaa wr (Obj.cells #[.string ⟨nm.toArray⟩,.string ⟨tx.toArray⟩] 46);have HN:=Hi (fun W=>zel nm W hxl);have HBX:=Hi hbx;have HB:=Hi (zac hbel hbx hbel.size);have HRU:=Hi hru;have hP4:=HP3.out;have hnew:(wr.alloc (Obj.cells #[.string ⟨nm.toArray⟩,.string ⟨tx.toArray⟩] 46)).heap[wr.heap.size]? = some (.cells #[.string ⟨nm.toArray⟩,.string ⟨tx.toArray⟩] 46 (0,0)):=heap_alloc_new wr _;have HNEW:=Hi hnew;clear hbx hru hx hget hbel hnew;generalize hnb:zbj nm=nb at *;have HNB:=Hi hnb;clear hnb
    cases nb with
    | false =>
      have hru:=HRU.out;rw [if_pos rfl] at hru;rw [← hru] at hP4;have HP5:=Hi (show rulP rs ins=([],(k:Int),7) from hP4);clear hru hP4 HP3 HRU;go_wp2_with fail
      refine (HN.out _).mono ?_
      rintro e w5 ⟨rfl,hb5⟩
      have HB5:=Hi (zac HB.out hb5 HB.out.size);clear hb5;go_wp2;exact bodyPost_ret (v := .tuple #[.slice Option.none 0 0,.int .i64 (k:Int),.int .i64 7]) (by simp [results,Tryz.results7,go_sem]) rfl (RetRul.none HP5.out HB5.out)
    | true =>
    have hru:=HRU.out;rw [if_neg (show ¬ (true=false) from by decide)] at hru;have HRU1:=Hi hru;clear hru HRU hP4;go_wp2_with fail
    refine (HN.out _).mono ?_
    rintro e w5 ⟨rfl,hb5⟩
    have HB5:=Hi (zac HB.out hb5 HB.out.size);have HBX5:=Hi (zac HBX.out hb5 HBX.out.size);have HB5b:=Hi hb5;have hs5:=HBX5.out.size;have hsw5:=hb5.size;rw [World.size_alloc] at hsw5;clear hb5 HBX HB;go_wp2;go_loopg [48] (env.length+1) (fun g v wq=>QnR w5 env nm g v wq)
    case atStart=>exact ⟨0,Nat.zero_le _,by omega,rfl,fun i y h=>absurd h (Nat.not_lt_zero _),Below.refl _ _⟩
    case round =>
      rename World=>wq
      obtain ⟨j,hj,hgj,rfl,hall,hbq⟩:=hrel;have HALL:=Hi hall;have hsq:=hbq.size;have HBQ:=Hi (zac HB5.out hbq HB5.out.size);have HBXQ:=Hi (zac HBX5.out hbq HBX5.out.size);have HBQ0:=Hi hbq;have hnw:=((zac HB5b.out hbq HB5b.out.size).block wr.heap.size (by rw [World.size_alloc];omega)).trans HNEW.out;have z0:wq.cell? ⟨wr.heap.size,0,none⟩=some (.string ⟨nm.toArray⟩):=by rw [cell_of_row _ _ 0 _ _ (0,0) hnw];rfl
      have z1:wq.cell? ⟨wr.heap.size,1,none⟩=some (.string ⟨tx.toArray⟩):=by rw [cell_of_row _ _ 1 _ _ (0,0) hnw];rfl
      have hrq:wr.heap.size<wq.heap.size:=(Array.getElem?_eq_some_iff.1 hnw).1;have HNW:=Hi hnw;clear hall hbq hnw
      by_cases hjl:j<env.length
      case pos =>
        obtain ⟨b',o',s',hA',-,hx',hxl',hxw',u0,u1⟩:=sgAt ((HEN.out.below HBXQ.out (Nat.le_refl _)).row rfl) hjl;subst hA';obtain ⟨nm',kd'⟩:=s';dsimp only at hxl' hxw' u0 u1;have HBA:=Hi (zac HBQ.out (zaa wq (Obj.cells #[.string ⟨nm'.toArray⟩,.int .i64 kd'] 40)) HBQ.out.size);have HBA0:=Hi (zac HBQ0.out (zaa wq (Obj.cells #[.string ⟨nm'.toArray⟩,.int .i64 kd'] 40)) HBQ0.out.size);have HX':=Hi hx';clear hx'
        by_cases he:nm'=nm
        · have e1:(nm' == nm)=true:=by simp [he]
          subst he
          have hru:=HRU1.out
          have hk8:(zay env nm').isSome=true:=zhC HX'.out
          rw [if_pos hk8] at hru
          have hP4:=HP3.out
          rw [← hru] at hP4
          have HP5:=Hi (show rulP rs ins=([],(k:Int),8) from hP4)
          clear hru hP4 HP3 HRU1 hk8
          go_wp2
          exact bodyPost_ret (v := .tuple #[.slice Option.none 0 0,.int .i64 (k:Int),.int .i64 8]) (by simp [results,Tryz.results7,go_sem]) rfl (RetRul.none HP5.out HBA.out)
        · have e1:(nm' == nm)=false:=by simp [he]
          have HSU:=Hi (zgr HALL.out HX'.out he)
          clear he
          go_wp2
          go_roundg (env.length-j)
          case measure=>omega
          case rel=>exact ⟨j+1,by omega,by omega,by go_num,HSU.out,HBA0.out⟩
      obtain rfl:j=env.length:=by omega
      have hko:=zgt HALL.out;have hru:=HRU1.out;rw [hko,if_neg (show ¬ ((Option.none:Option Int).isSome=true) from by decide)] at hru;have HKO:=Hi hko;have HC:=Hi (zjp tx wq);have HVP:=Hi (fun h=>za6 (t:=tx) h);unfold RetPq at HC;generalize zaw tx=r at *;obtain ⟨x,a,er⟩:=r;dsimp only at HC HVP hru;have HRU2:=Hi hru;have hP4:=HP3.out;clear hru hko HRU1;go_wp2_with fail
      refine HC.out.mono ?_
      rintro e w2 ⟨op,n,nm2,A2,c2,ks,hx2,rfl,hxi2,hb2,hr2⟩
      subst hx2;have hs2:=hb2.size;have hbx2:=zaa w2 (Obj.cells #[.int .i64 op,.int .i64 n,.string ⟨nm2.toArray⟩,.slice A2 ks.length c2] 48);have hb2x:=zac hb2 hbx2 hb2.size;have HB2:=Hi (zac HBQ.out hb2x HBQ.out.size);have HB2R:=Hi (zac HBXQ.out hb2x HBXQ.out.size);have HNW2:=Hi ((hb2x.block wr.heap.size hrq).trans HNW.out);have hru:=HRU2.out
      by_cases he:er=0
      case neg =>
        rw [if_pos he] at hru;rw [← hru] at hP4;have HP5:=Hi (show rulP rs ins=([],(k:Int),er) from hP4);have k2:(er != 0)=true:=by simp [he]
        clear hru hP4 HP3 HRU2 he z0 z1;go_wp2;exact bodyPost_ret (v := .tuple #[.slice Option.none 0 0,.int .i64 (k:Int),.int .i64 er]) (by simp [results,Tryz.results7,go_sem]) rfl (RetRul.none HP5.out HB2.out)
      rw [if_neg (by simp [he])] at hru;have k2:(er != 0)=false:=by simp [he]
      have HVX:=Hi (HVP.out he);have HRU3:=Hi hru;have HGE2:=Hi (zfH HGE.out HNB.out HKO.out);clear hru HRU2 he hP4 HVP z0 z1 HALL;obtain ⟨ls,hls,hown5,hvs5,hT5⟩:=HOW.out.below HB2R.out (Nat.le_refl _);have HE5:=Hi (HEN.out.below HB2R.out (Nat.le_refl _));have HG8:=Hi (show ∀ g,(Value.slice A4 l.length c4).ownBlock=some g→w1.heap.size≤g∧g<wr.heap.size from fun g hg=>HOW.out.lt hg);have HG7:=Hi (show ∀ g,(Value.slice A7 env.length c7).ownBlock=some g→w1.heap.size≤g∧g<wr.heap.size from fun g hg=>HEN.out.own.lt g hg);have HAP:=Hi HEN.out.apart;have HFIT:=Hi HEN.out.fit;have HTW:=Hi (show ∀ q,T q→q<wr.heap.size from fun q hq=>by obtain ⟨_,_,_,_,h4⟩:=HOW.out;exact (h4 q hq).2.1);have HR2:=Hi (hr2.mono ExV.mono (fun b q=>q) (zab (S:=New wq w2) hbx2 fun b q=>q.2));have HLS:=Hi hls;have HOW5:=Hi (hown5.alloc (Obj.cells #[.int .i64 op,.int .i64 n,.string ⟨nm2.toArray⟩,.slice A2 ks.length c2] 48));have HV5:=Hi hvs5;have HT5:=Hi hT5;have hsr:=(zaL (w2.alloc (Obj.cells #[.int .i64 op,.int .i64 n,.string ⟨nm2.toArray⟩,.slice A2 ks.length c2] 48)) [.int .i64 op,.int .i64 n,.string ⟨nm2.toArray⟩,.slice A2 ks.length c2] 48 4 1 rfl);rw [World.size_alloc] at hsr;have HSR:=Hi hsr;clear hsr;have hXP:ExP op n nm2:=hxi2.hp;have hxc:=hxi2.hc;have hxm:=hxi2.hm;have HBS:=Hi (show w1.heap.size≤((w2.alloc (Obj.cells #[.int .i64 op,.int .i64 n,.string ⟨nm2.toArray⟩,.slice A2 ks.length c2] 48)).alloc (Obj.cells #[.int .i64 op,.int .i64 n,.string ⟨nm2.toArray⟩,.slice A2 ks.length c2] 48)).heap.size by simp only [World.size_alloc];omega);have HM1:=Hi (show l.length+1≤maxLen by unfold maxLen;omega);have HM2:=Hi (show (l.length+1)*56≤140737488355328 by omega);have HM3:=Hi (show env.length+1≤maxLen by unfold maxLen;omega);have HM4:=Hi (show (env.length+1)*24≤140737488355328 by omega);have ON3:=Hi (zgc ⟨nm,1⟩);obtain ⟨ti,hti,hzi⟩:=Option.map_eq_some_iff.1 zhy;obtain ⟨hz0,hz1,hz2⟩:ti.zero=some (.agg #[.int .i64 0,.int .i64 0,.string ⟨#[]⟩,.slice Option.none 0 0])∧ti.size=4∧ti.bytes=56:=by simpa using hzi
      have HTI:=Hi (And.intro hti (And.intro hz0 (And.intro hz1 hz2)));have xx:=(XV.new w2 op n nm2 A2 ks.length c2).cells;obtain ⟨x0,x1,x2,x3,-,-,-,-⟩:=xx;clear hti hzi hz0 hz1 hz2 hls hown5 hvs5 hT5 hr2 hb2 hbx2 hb2x hxi2 HC HNEW
      go_wp2_with (at_builtin;first
        | (refine zaj (o:=⟨some 73,_,_,_,_,_⟩) (w:=(w2.alloc (Obj.cells #[.int .i64 op,.int .i64 n,.string ⟨nm2.toArray⟩,.slice A2 ks.length c2] 48)).alloc (Obj.cells #[.int .i64 op,.int .i64 n,.string ⟨nm2.toArray⟩,.slice A2 ks.length c2] 48)) _ _ 27 rfl rfl Tryz.underlying27 HTI.out.1 HTI.out.2.1 HTI.out.2.2.1 HTI.out.2.2.2 rfl (by decide) rfl HOW5.out rfl HSR.out (zeN ⟨op,n,nm2,A2,ks.length,c2⟩) HM1.out HM2.out HBS.out ?_;intro v6 w6 hown6 hg6 hv6;have hg6':((w2.alloc (Obj.cells #[.int .i64 op,.int .i64 n,.string ⟨nm2.toArray⟩,.slice A2 ks.length c2] 48)).alloc (Obj.cells #[.int .i64 op,.int .i64 n,.string ⟨nm2.toArray⟩,.slice A2 ks.length c2] 48)).grownBy w6 (Value.slice A4 l.length c4).ownBlock:=hg6;obtain ⟨A6,c6,hv6e,hc6,hm6⟩:=zag hown6;have HG6:=Hi hg6';have HOW6:=Hi hown6;have HV6:=Hi hv6;have n6:=hg6'.block wr.heap.size (by simp only [World.size_alloc];omega) (fun q=>by have:=(HG8.out _ q.symm).2;omega);have n6b:w6.heap[wr.heap.size]? = some (.cells #[.string ⟨nm.toArray⟩,.string ⟨tx.toArray⟩] 46 (0,0)):=n6.trans ((Lib.alloc_old _ _ _ (by rw [World.size_alloc];omega)).trans HNW2.out);have z6:w6.cell? ⟨wr.heap.size,0,none⟩=some (.string ⟨nm.toArray⟩):=(by rw [cell_of_row _ _ 0 _ _ (0,0) n6b];rfl);have h6l:=(Array.getElem?_eq_some_iff.1 n6b).1;have hs6:=hg6'.size;have HE6:=Hi ((zam (HE5.out.own.alloc _) (fun g e hgs=>hg6'.block g hgs (fun q=>(HAP.out g e).1 q.symm))).alloc (Obj.cells #[.string ⟨nm.toArray⟩,.int .i64 1] 40));have HSG:=Hi (zaL w6 (zbH ⟨nm,1⟩) 40 2 1 rfl);have HB6:=Hi (show w1.heap.size≤(w6.alloc (Obj.cells #[.string ⟨nm.toArray⟩,.int .i64 1] 40)).heap.size by simp only [World.size_alloc] at hs6 ⊢;omega);clear hown6 hg6 hg6' hv6 n6 n6b x0 x1 x2 x3;subst hv6e)
        | (refine zaj (o:=⟨some 79,_,_,_,_,_⟩) (w:=w6.alloc (Obj.cells #[.string ⟨nm.toArray⟩,.int .i64 1] 40)) _ _ 23 rfl rfl Tryz.underlying23 HI.out.1 HI.out.2.1 HI.out.2.2.1 HI.out.2.2.2 rfl (by decide) rfl HE6.out rfl HSG.out ON3.out HM3.out HM4.out HB6.out ?_;intro v9 w9 hown9 hg9 hv9))
      all_goals
        obtain ⟨A9,c9,hv9e,hc9,hm9⟩:=zag hown9;subst hv9e;have HOW9:=Hi hown9;have HG9:=Hi (show (w6.alloc (Obj.cells #[.string ⟨nm.toArray⟩,.int .i64 1] 40)).grownBy w9 (Value.slice A7 env.length c7).ownBlock from hg9);have HV9:=Hi (show (Value.slice A9 (env.length+1) c9).ownBlock=(Value.slice A7 env.length c7).ownBlock∨(Value.slice A9 (env.length+1) c9).ownBlock=some (w6.alloc (Obj.cells #[.string ⟨nm.toArray⟩,.int .i64 1] 40)).heap.size from hv9);have HV6':=Hi (show (Value.slice A6 (l.length+1) c6).ownBlock=(Value.slice A4 l.length c4).ownBlock∨(Value.slice A6 (l.length+1) c6).ownBlock=some ((w2.alloc (Obj.cells #[.int .i64 op,.int .i64 n,.string ⟨nm2.toArray⟩,.slice A2 ks.length c2] 48)).alloc (Obj.cells #[.int .i64 op,.int .i64 n,.string ⟨nm2.toArray⟩,.slice A2 ks.length c2] 48)).heap.size from HV6.out);have HG6':=Hi (show ((w2.alloc (Obj.cells #[.int .i64 op,.int .i64 n,.string ⟨nm2.toArray⟩,.slice A2 ks.length c2] 48)).alloc (Obj.cells #[.int .i64 op,.int .i64 n,.string ⟨nm2.toArray⟩,.slice A2 ks.length c2] 48)).grownBy w6 (Value.slice A4 l.length c4).ownBlock from HG6.out);clear hown9 hg9 hv9 HV6 HG6;go_roundg (rs.length-k)
        case measure=>omega
        case rel =>
          have hs6:=HG6'.out.size;simp only [World.size_alloc] at hs6;have hs9:=HG9.out.size;simp only [World.size_alloc] at hs9;have kb:=zab (S:=fun b=>b<(w2.alloc (Obj.cells #[.int .i64 op,.int .i64 n,.string ⟨nm2.toArray⟩,.slice A2 ks.length c2] 48)).heap.size) (zaa (w2.alloc (Obj.cells #[.int .i64 op,.int .i64 n,.string ⟨nm2.toArray⟩,.slice A2 ks.length c2] 48)) (Obj.cells #[.int .i64 op,.int .i64 n,.string ⟨nm2.toArray⟩,.slice A2 ks.length c2] 48)) (fun b hb=>hb)
          have hO6:=XOwn.push (T:=fun b=>T b∨New wq w2 b) (xs:=l) (l:=⟨op,n,nm2,A2,ks.length,c2⟩) (y := .mk op n nm2 ks) HLS.out
            (fun k l x hl hx=>ExV.mono _ _ _ _ _ _ (fun b hb => .inl hb) (kb.mono fun b hb=>(HT5.out b hb).2.1) (HV5.out k l x hl hx))
            (fun b hb=>by
              rcases hb with hb | hb
              · have:=HT5.out b hb
                exact ⟨this.1,by have:=this.2.1;simp only [World.size_alloc] at this ⊢;omega,this.2.2⟩
              · have h1:=hb.1
                have h2:=hb.2
                refine ⟨by omega,by simp only [World.size_alloc];omega,fun q => ?_⟩
                have:=(HG8.out _ q.symm).2
                omega)
            (ExV.mono _ _ _ _ _ _ (fun b hb => .inr hb) (kb.mono fun b hb=>by have:=hb.2;simp only [World.size_alloc];omega) (ExV.mk hxc hxm hXP HR2.out)) HOW6.out HG6'.out HV6'.out
          have hap6:∀ g,(Value.slice A7 env.length c7).ownBlock=some g→(Value.slice A6 (l.length+1) c6).ownBlock≠some g∧¬ (T g∨New wq w2 g):=by
            intro g hg;have h7:=(HG7.out g hg).2;refine ⟨fun q => ?_,fun q => ?_⟩
            · rcases HV6'.out with e | e
              · exact (HAP.out g hg).1 (e.symm.trans q)
              · rw [e] at q
                injection q with q
                simp only [World.size_alloc] at q
                omega
            · rcases q with q | q
              · exact (HAP.out g hg).2 q
              · have:=q.1
                omega
          have hO9:=(hO6.below (zaa w6 (Obj.cells #[.string ⟨nm.toArray⟩,.int .i64 1] 40)) (Nat.le_refl _)).apart HG9.out hap6
          have hen9:EnO w9 w1.heap.size (fun b=>T b∨New wq w2 b) (.slice A9 (env.length+1) c9) (.slice A6 (l.length+1) c6) (env++[⟨nm,1⟩]):=by
            refine ⟨?_,fun s hs => ?_,fun g hg => ?_⟩
            · rw [List.flatMap_append,List.length_append,show [(⟨nm,1⟩:Sg)].flatMap zbH=zbH ⟨nm,1⟩ from List.append_nil _]
              exact HOW9.out
            · rcases List.mem_append.1 hs with q | q
              · exact HFIT.out s q
              · rw [List.mem_singleton.1 q];exact ⟨hxl,(show (Lit.int .i64 1).wf=true from rfl)⟩
            · rcases HV9.out with e | e
              · exact hap6 g (e.symm.trans hg)
              · rw [e] at hg
                injection hg with hg
                rw [World.size_alloc] at hg
                refine ⟨fun q => ?_,fun q => ?_⟩
                · have:=(HOW6.out.lt g q).2
                  omega
                · rcases q with q | q
                  · have:=HTW.out g q
                    omega
                  · have:=q.2
                    omega
          have hb6:Below w.heap.size w w6:=(HB2.out.alloc (by have:=HB2.out.size;exact this) (Obj.cells #[.int .i64 op,.int .i64 n,.string ⟨nm2.toArray⟩,.slice A2 ks.length c2] 48)).grown HG6'.out (by have:=(HB2.out.alloc (by have:=HB2.out.size;exact this) (Obj.cells #[.int .i64 op,.int .i64 n,.string ⟨nm2.toArray⟩,.slice A2 ks.length c2] 48)).size;exact this) (fun j hj=>by have:=(HG8.out j hj).1;omega);have hb9:Below w.heap.size w w9:=(hb6.alloc (by have:=hb6.size;exact this) (Obj.cells #[.string ⟨nm.toArray⟩,.int .i64 1] 40)).grown HG9.out (by have:=(hb6.alloc (by have:=hb6.size;exact this) (Obj.cells #[.string ⟨nm.toArray⟩,.int .i64 1] 40)).size;exact this) (fun j hj=>by have:=(HG7.out j hj).1;omega);refine ⟨k+1,env++[⟨nm,1⟩],l++[.mk op n nm2 ks],_,by omega,by omega,by go_num,HRU3.out,by have:=HEL.out;simp only [List.length_append,List.length_singleton];omega,by have:=HLL.out;simp only [List.length_append,List.length_singleton];omega,hen9,hO9,by omega,hb9,HGE2.out,fun x hx => ?_⟩
          rcases List.mem_append.1 hx with q | q
          · exact HVAL.out x q
          · rw [List.mem_singleton.1 q];exact HVX.out
end Go.Proofs.YtcikenlflcofbaaGreatDoor
