/-
  Compile: what it returns and where the program lies.
-/
import Derived.Test.YtcikenlflcofbaaGreatDoorRulW
import Derived.Test.YtcikenlflcofbaaGreatDoorExQ
import Derived.Test.YtcikenlflcofbaaGreatDoorM1
import Derived.Test.YtcikenlflcofbaaGreatDoorKVfH
import Derived.Test.YtcikenlflcofbaaGreatDoorP2
set_option maxRecDepth 100000
set_option maxHeartbeats 8000000
namespace Go.Proofs.YtcikenlflcofbaaGreatDoor
open Go.RowKit
def CmI (W:World) (bi:Nat) (ins:List Sg) (g:Nat) (v:Value) (wr:World):Prop:=
  ∃ k:Nat,k≤ins.length∧ins.length-k<g∧v = .int .i64 (k:Int)∧MapS Tryz.prog 9 3 wr bi k (plF ((ins.take k).map (·.nm)))∧KB (fun b=>b=bi) W wr
def CmN (W:World) (nb br:Nat) (rs:List Rl) (g:Nat) (v:Value) (wr:World):Prop:=
  ∃ k:Nat,k≤rs.length∧rs.length-k<g∧v = .int .i64 (k:Int)∧wr.ownsRow nb 9 1 (.slice (some ⟨nb,0,none⟩) rs.length rs.length) rs.length ((rs.take k).map (fun r=>nmV r.nm)++List.replicate (rs.length-k) (.string ⟨#[]⟩)) ∧
    MapS Tryz.prog 9 3 wr br k (plF ((rs.take k).map (·.nm)))∧KB (fun b=>b=nb∨b=br) W wr
def CmX (W:World) (eb:Nat) (mi mr:Value) (il rl:List (List UInt8)) (l:List Ex) (T:Em) (g:Nat) (v:Value) (wr:World):Prop:=
  ∃ (k:Nat) (m:Em) (v0 v1:Value),k≤l.length∧l.length-k<g∧v = .int .i64 (k:Int)∧zaM il rl (l.drop k) (k:Int) m=T∧EmW wr eb mi mr m v0 v1∧EmK W eb (.slice Option.none 0 0) (.slice Option.none 0 0) wr∧Fresh W (.slice Option.none 0 0) v0∧Fresh W (.slice Option.none 0 0) v1
theorem za0 {w w':World} {vb:Nat} (h:Below vb w w') (hv:vb≤w.heap.size) (i:Nat) (v:Value):Below vb w (w'.setCell ⟨vb,i,none⟩ v):=
  have g:=zaf w' vb i v
  ⟨g.os.trans h.os,g.tape.trans h.tape,g.output.trans h.output,Nat.le_trans h.size g.size,fun b hb=>(g.block b (Nat.lt_of_lt_of_le (Nat.lt_of_lt_of_le hb hv) h.size) (fun q=>by injection q;omega)).trans (h.block b hb)⟩
theorem em_nil {w:World} {eb:Nat} {mi mr:Value} (h:w.heap[eb]? = some (.cells #[.slice Option.none 0 0,.slice Option.none 0 0,mi,mr,.int .i64 0,.int .i64 0] 70 (0,0))):EmW w eb mi mr ⟨[],[],0,0⟩ (.slice Option.none 0 0) (.slice Option.none 0 0):=
  ⟨h,World.ownsRow_nil _ _ _ _,World.ownsRow_nil _ _ _ _,fun g hg=>by simp [Value.ownBlock] at hg,by simp,by simp,by simp,by simp⟩
theorem EmK.kb {w w':World} {eb:Nat} (h:EmK w eb (.slice Option.none 0 0) (.slice Option.none 0 0) w'):KB (fun b=>b=eb) w w' :=
  ⟨h.os,h.tape,h.output,h.size,fun b hb hn=>h.block b hb hn (by simp [Value.ownBlock]) (by simp [Value.ownBlock])⟩
def sgL (s:Sg):List Value:=[nmV s.nm,.int .i64 s.kind]
theorem sg_src {w:World} {S:Nat→Prop} {A:Option Addr} {n:Nat} {l:List Sg} (h:Rw SgC 2 w S A n l):Src w 2 A n (l.flatMap sgL)∧(A=Option.none→n=0):=by
  refine ⟨⟨?_,fun hn => ?_⟩,fun hA => ?_⟩
  · rw [List.length_flatMap,← h.1]
    clear h
    induction l with
    | nil=>rfl
    | cons x l ih=>simp [sgL] at ih ⊢;omega
  · obtain ⟨b,o,e,-,hr⟩:=h.2 hn
    refine ⟨_,e,fun j u hu => ?_⟩
    rw [Addr.add_mid]
    have key:∀ (l:List Sg) (o:Nat),(∀ k x,l[k]? = some x→∃ cs,cs.length=2∧SgC w S cs x∧w.rangeAt b (o+k*2) cs)→∀ j u,(l.flatMap sgL)[j]? = some u→w.cell? ⟨b,o+j,none⟩=some u:=by
      intro l
      induction l with
      | nil=>intro o _ j u hu;simp at hu
      | cons x l ih =>
        intro o hk j u hu
        obtain ⟨cs,-,⟨rfl,-⟩,hat⟩:=hk 0 x rfl
        match j,hu with
        | 0,hu=>simp [sgL] at hu;subst hu;simpa using hat 0 _ rfl
        | 1,hu=>simp [sgL] at hu;subst hu;simpa using hat 1 _ rfl
        | j+2,hu =>
          have:=ih (o+2) (fun k y hy=>by
            obtain ⟨cs,a1,a2,a3⟩:=hk (k+1) y hy
            exact ⟨cs,a1,a2,by rw [show o+2+k*2=o+(k+1)*2 by omega];exact a3⟩) j u (by simpa [sgL] using hu)
          rw [show o+(j+2)=o+2+j by omega]
          exact this
    exact key l o hr j u hu
  · rcases Nat.eq_zero_or_pos n with h0 | h0
    · exact h0
    · obtain ⟨b,o,e,-,-⟩:=h.2 h0
      rw [hA] at e
      cases e
theorem zjW {w W:World} {rs:List Rl} {ins:List Sg} {cells:List Cl} {code:List Ins} (h:zcm rs ins=((code,cells),0,0)) {A1 A2 A3 A4:Option Addr} {c1 c2 c3 c4 n1 n2 n3 n4:Nat}
    (hn1:ins.length=n1) (hn2:rs.length=n2) (hn3:cells.length=n3) (hn4:code.length=n4)
    (o1:W.ownsRow w.heap.size 40 2 (.slice A1 n1 c1) n1 (ins.flatMap sgL)) (o2:W.ownsRow w.heap.size 9 1 (.slice A2 n2 c2) n2 (rs.map fun r=>nmV r.nm))
    (o3:W.ownsRow w.heap.size 89 2 (.slice A3 n3 c3) n3 (cells.flatMap clC)) (o4:W.ownsRow w.heap.size 76 2 (.slice A4 n4 c4) n4 (code.flatMap insC))
    (hs:∀ s∈ins,s.nm.length≤maxLen∧(Lit.int .i64 s.kind).wf=true) (hr:∀ r∈rs,r.nm.length≤maxLen) (hb:Below w.heap.size w W) :
    RetCmp rs ins w (.returned (.tuple #[.agg #[.slice A1 n1 c1,.slice A2 n2 c2,.slice A3 n3 c3,.slice A4 n4 c4],.int .i64 0,.int .i64 0])) W:=by
  have hc:cmpP rs ins=(⟨ins,rs.map (·.nm),cells,code⟩,0,0):=by unfold cmpP;rw [h,if_pos rfl]
  subst hn1;subst hn2;subst hn3;subst hn4;have hS:∀ b,w.heap.size≤b→b<W.heap.size→New w W b:=fun b h1 h2=>⟨h1,h2⟩
  obtain ⟨_,_,e1,l1,m1⟩:=zag o1;obtain ⟨_,_,e2,l2,m2⟩:=zag o2;obtain ⟨_,_,e3,l3,m3⟩:=zag o3;obtain ⟨_,_,e4,l4,m4⟩:=zag o4;injection e1 with _ _ e1
  injection e2 with _ _ e2
  injection e3 with _ _ e3
  injection e4 with _ _ e4
  subst e1;subst e2;subst e3;subst e4;refine ⟨⟨A1,c1,A2,c2,A3,c3,A4,c4⟩,?_,?_,hb⟩
  · rw [hc]
    show _=Ending.returned (.tuple #[.agg #[.slice A1 ins.length c1,.slice A2 (rs.map (·.nm)).length c2,.slice A3 cells.length c3,.slice A4 code.length c4],.int .i64 0,.int .i64 0])
    rw [List.length_map]
  · rw [hc]
    refine ⟨l1,m1,Rw.of_own o1 rfl (fun _ _=>rfl) (fun s q=>⟨rfl,hs s q⟩) hS,by simpa using l2,m2,?_,l3,m3,Rw.of_own o3 rfl (fun _ _=>rfl) (fun _ _=>rfl) hS,l4,m4,Rw.of_own o4 rfl (fun _ _=>rfl) (fun _ _=>rfl) hS⟩
    refine Rw.of_own (f:=fun s=>[nmV s]) (base:=w.heap.size) (e := 9) (c:=c2) ?_ rfl (fun _ _=>rfl) (fun s q=>⟨rfl,?_⟩) hS
    · rw [← List.map_eq_flatMap,List.map_map,List.length_map]
      exact o2
    · obtain ⟨r,hr',rfl⟩:=List.mem_map.1 q
      exact hr r hr'
theorem zdW (w:World) (b:Nat) (x y z u:Value):∀ g,g≠b→((((w.setCell ⟨b,0,none⟩ x).setCell ⟨b,1,none⟩ y).setCell ⟨b,2,none⟩ z).setCell ⟨b,3,none⟩ u).heap[g]? = w.heap[g]?:=by
  intro g hg;have k:=fun (W:World) i v=>Below.heap_setCell W ⟨b,i,none⟩ v g (fun e=>hg e)
  rw [k,k,k,k]
theorem zcP {w w':World} (h:Below w.drew.heap.size w.drew w'):Below w.heap.size w w':=zac (zad (Below.refl _ _)) h (Nat.le_refl _)
theorem ziS (n:Nat):(madeCells (Value.string ⟨#[]⟩).cells (n*1)).toList=List.replicate n (.string ⟨#[]⟩):=by
  rw [Nat.mul_one];exact toList_madeCells_one _ _
theorem zd2 (A:Option Addr) (c:Nat) (rs:List Rl) (A':Option Addr) (c':Nat) (ins:List Sg) (w:World) (hw:Lw w) (hc:rs.length≤c) (hm:c≤maxLen) (hr:Rw RlC 2 w (fun b=>b<w.heap.size) A rs.length rs)
    (hc':ins.length≤c') (hm':c'≤maxLen) (hr':Rw SgC 2 w (fun b=>b<w.heap.size) A' ins.length ins) :
    Calls Tryz.prog 8 #[.slice A rs.length c,.slice A' ins.length c'] w (RetCmp rs ins w):=by
  have HRUL:=Hi (fun W (hb:Below w.heap.size w W) (hl:Lw W)=>zju A c rs A' c' ins W hl hc hm (hr.mono RlC.mono (fun b q=>Nat.lt_of_lt_of_le q hb.size) (zab hb fun b q=>q)) hc' hm' (hr'.mono SgC.mono (fun b q=>Nat.lt_of_lt_of_le q hb.size) (zab hb fun b q=>q)));have HR:=Hi hr;have HR':=Hi hr';have HLW:=Hi hw;clear hr hr' hw;unfold maxLen at hm hm';go_enter Tryz.func8,Tryz.ntmps8;go_upto_region 1 with fail
  go_wp2_with fail
  have hb0:=zaa w (Obj.cells #[.slice Option.none 0 0,.slice Option.none 0 0,.slice Option.none 0 0,.slice Option.none 0 0] 35);refine (HRUL.out _ hb0 (HLW.out.below hb0)).mono ?_
  rintro e w1 ⟨v,xs,a,er,T,hP,rfl,hownX,hb1⟩
  obtain ⟨A7,c7,rfl,hc7,hm7⟩:=hownX.shape;have HXR:=Hi (hownX.rw (S:=fun b=>b<w1.heap.size) rfl (fun b _ h=>h));clear hownX;have hrh:w1.heap[w.heap.size]? = some (.cells #[.slice Option.none 0 0,.slice Option.none 0 0,.slice Option.none 0 0,.slice Option.none 0 0] 35 (0,0)):=(hb1.block _ (by rw [World.size_alloc];omega)).trans (heap_alloc_new w _);have t0:w1.cell? ⟨w.heap.size,0,none⟩=some (.slice Option.none 0 0):=(by simp [World.cell?,hrh]);have t1:w1.cell? ⟨w.heap.size,1,none⟩=some (.slice Option.none 0 0):=(by simp [World.cell?,hrh]);have t2:w1.cell? ⟨w.heap.size,2,none⟩=some (.slice Option.none 0 0):=(by simp [World.cell?,hrh]);have t3:w1.cell? ⟨w.heap.size,3,none⟩=some (.slice Option.none 0 0):=(by simp [World.cell?,hrh]);have HRH:=Hi hrh;have f0:=Lib.frozen_of_heap hrh 0;have f1:=Lib.frozen_of_heap hrh 1;have f2:=Lib.frozen_of_heap hrh 2;have f3:=Lib.frozen_of_heap hrh 3;have HB1:=Hi (zac hb0 hb1 hb0.size)
  by_cases her:er=0
  case neg =>
    have ber:(er != 0)=true:=by simpa using her
    go_wp2;refine bodyPost_ret (v := .tuple #[.agg #[.slice Option.none 0 0,.slice Option.none 0 0,.slice Option.none 0 0,.slice Option.none 0 0],.int .i64 a,.int .i64 er]) ?_ rfl ?_
    · simp [results,Tryz.results8,go_sem,t0,t1,t2,t3]
    · have hset:=za0 (za0 (za0 (za0 HB1.out (Nat.le_refl _) 0 (.slice Option.none 0 0)) (Nat.le_refl _) 1 (.slice Option.none 0 0)) (Nat.le_refl _) 2 (.slice Option.none 0 0)) (Nat.le_refl _) 3 (.slice Option.none 0 0)
      have hce:(zcm rs ins).2=(a,er):=by unfold zcm;rw [hP,if_pos her]
      exact RetCmp.none hce her hset
  subst her;have hmm := @run_makeMap Tryz.prog;go_upto_region 5 with fail
  clear hmm;have hm1:=MapS.made Tryz.prog 9 3 w1;have hm2:=MapS.made Tryz.prog 9 3 (w1.alloc (.map #[] 0));have hm1':=(hm1.alloc (.map #[] 0)).alloc (.cells #[.slice Option.none 0 0,.slice Option.none 0 0,.map (some w1.heap.size),.map (some (w1.heap.size+1)),.int .i64 0,.int .i64 0] 70);have hm2':=hm2.alloc (.cells #[.slice Option.none 0 0,.slice Option.none 0 0,.map (some w1.heap.size),.map (some (w1.heap.size+1)),.int .i64 0,.int .i64 0] 70);have hW2:(((w1.alloc (.map #[] 0)).alloc (.map #[] 0)).alloc (.cells #[.slice Option.none 0 0,.slice Option.none 0 0,.map (some w1.heap.size),.map (some (w1.heap.size+1)),.int .i64 0,.int .i64 0] 70)).heap.size=w1.heap.size+3:=by simp only [World.size_alloc]
  have hnE:=heap_alloc_new ((w1.alloc (.map #[] 0)).alloc (.map #[] 0)) (.cells #[.slice Option.none 0 0,.slice Option.none 0 0,.map (some w1.heap.size),.map (some (w1.heap.size+1)),.int .i64 0,.int .i64 0] 70);simp only [World.size_alloc] at hm2' hnE
  have hbE:Below w1.heap.size w1 (((w1.alloc (.map #[] 0)).alloc (.map #[] 0)).alloc (.cells #[.slice Option.none 0 0,.slice Option.none 0 0,.map (some w1.heap.size),.map (some (w1.heap.size+1)),.int .i64 0,.int .i64 0] 70)):=
    (((Below.refl _ w1).alloc (Nat.le_refl _) _).alloc (by simp only [World.size_alloc];omega) _).alloc (by simp only [World.size_alloc];omega) _
  rw [← zlC] at hm1' hm2';clear hm1 hm2;generalize ((w1.alloc (.map #[] 0)).alloc (.map #[] 0)).alloc (.cells #[.slice Option.none 0 0,.slice Option.none 0 0,.map (some w1.heap.size),.map (some (w1.heap.size+1)),.int .i64 0,.int .i64 0] 70)=W2 at *
  have HE2:Hid (EmW W2 (w1.heap.size+2) (.map (some w1.heap.size)) (.map (some (w1.heap.size+1))) ⟨[],[],0,0⟩ (.slice Option.none 0 0) (.slice Option.none 0 0)):=
    Hi ⟨hnE,World.ownsRow_nil _ _ _ _,World.ownsRow_nil _ _ _ _,fun g hg=>by simp [Value.ownBlock] at hg,by simp,by simp,by simp,by simp⟩
  have HM1:=Hi hm1';have HM2:=Hi hm2';have HW2:=Hi hW2;have HBE:=Hi hbE;have HBW2:=Hi (HB1.out.trans (hbE.mono (by have:=hb1.size;rw [World.size_alloc] at this;omega)));clear hm1' hm2' hW2 hbE hnE;go_wp2;go_loopg [34] (ins.length+1) (fun g v wr=>CmI W2 w1.heap.size ins g v wr)
  case atStart=>exact ⟨0,Nat.zero_le _,by omega,rfl,HM1.out,KB.refl _ _⟩
  case round =>
    obtain ⟨k,hk,hg,rfl,hmap,hkb⟩:=hrel;have hsz:=hkb.size;have hs2:=HW2.out;have hs1:=hb1.size;simp only [World.size_alloc] at hs1
    by_cases hlt:k<ins.length
    case neg =>
      obtain rfl:k=ins.length:=by omega
      rw [List.take_length] at hmap;have hlen:=zlU (rs:=rs) (ins:=ins) (by rw [hP]);have hrl:rs.length≤16:=hlen.1;have hil:ins.length≤64:=hlen.2;have HMI:=Hi hmap;have HKB:=Hi hkb;obtain ⟨i0,hi,hz0,hz1,hz2⟩:=info_parts zfK;clear hlen hmap hkb HM1 hlt;go_upto_region 11 with (at_make;refine wpList_make_full _ rfl _ _ 31 rfl wr.heap.size 9 i0 _ 1 Tryz.underlying31 hi hz0 hz1 .i64 .i64 _ _ rs.length rfl rfl rfl rfl (by rw [hz2];omega) (by unfold maxLen;omega) (Nat.le_refl _) ?_;intro w3 hown3 hg3;have HO3:=Hi hown3;have HG3:=Hi hg3;clear hown3 hg3)
      have hown3:=HO3.out;rw [ziS] at hown3;have hb3:Below wr.heap.size wr w3:=(Below.refl _ _).grown HG3.out (Nat.le_refl _) (fun k hk=>by cases hk);have hmi3:=HMI.out.below hb3 HMI.out.block;have hkb3:=HKB.out.trans (KB.of_below hb3);have hs3:=hb3.size;have hlo:wr.heap.size<w3.heap.size:=(HO3.out.lt wr.heap.size rfl).2;have hmr3:=HM2.out.kept (w':=w3) (hkb3.block _ (by omega) (by omega));have HMI3:=Hi hmi3;have HEH3:=Hi ((hkb3.block (w1.heap.size+2) (by omega) (by omega)).trans HE2.out.heap);have HMR3:=Hi hmr3;have HBW3:=Hi (HBW2.out.trans (hkb3.below (by omega) (fun b q=>by omega)));have HB13:=Hi (HBE.out.trans (hkb3.below (by omega) (fun b q=>by omega)));have HON:=Hi hown3;clear hown3 hb3 hmi3 hkb3 hmr3 HO3 HG3 HMI HKB;go_wp2;go_loopg [52] (rs.length+1) (fun g v wq=>CmN w3 wr.heap.size (w1.heap.size+1) rs g v wq)
      case atStart=>exact ⟨0,Nat.zero_le _,by omega,rfl,by rw [List.take_zero];exact HON.out,by rw [List.take_zero];exact HMR3.out,KB.refl _ _⟩
      case round =>
        rename World=>wq
        clear HON HMR3;obtain ⟨j,hj,hgj,rfl,hown,hmap,hkb⟩:=hrel;have hsq:=hkb.size;have hbw:=HBW3.out.trans (hkb.below (by omega) (fun b q=>by omega));have heh:=(hkb.block (w1.heap.size+2) (by omega) (by omega)).trans HEH3.out
        by_cases hlt:j<rs.length
        case neg =>
          obtain rfl:j=rs.length:=by omega
          rw [List.take_length,Nat.sub_self,List.replicate_zero,List.append_nil] at hown;rw [List.take_length] at hmap;have HNM:=Hi hown;have HMR:=Hi hmap;have HMI:=Hi (HMI3.out.kept (w':=wq) (hkb.block _ (by have:=HMI3.out.block;omega) (by omega)));have HEH:=Hi heh;have HB1Q:=Hi (HB13.out.trans (hkb.below (by omega) (fun b q=>by omega)));have HBWQ:=Hi hbw;have hnblt:=(hown.lt wr.heap.size rfl).2;clear hown hmap hkb hbw heh hlt HMI3 HEH3 HB13 HBW3
          have hvl:∀ x∈xs,okG 16 x:=by
            obtain ⟨env,hro⟩:=zhh (rs:=rs) (ins:=ins) (by rw [hP]);have:=hro.ok (fun t ht=>za6 ht);rw [hP] at this;exact fun x hx=>(this x hx).1
          have hva:∀ x∈xs,zaR x=true:=by
            have hm:=zfb (rs:=rs) (ins:=ins) (by rw [hP]);obtain ⟨env,hro⟩:=zhh (rs:=rs) (ins:=ins) (by rw [hP]);rw [hP] at hm;dsimp only at hm;intro x hx;rw [hm] at hx;obtain ⟨y,hy,rfl⟩:=List.mem_map.1 hx;exact za6 (hro.parse y hy)
          have hxl:xs.length=rs.length:=by
            have hm:=zfb (rs:=rs) (ins:=ins) (by rw [hP]);rw [hP] at hm;dsimp only at hm;rw [hm,List.length_map]
          have hxl16:xs.length≤16:=by omega
          obtain ⟨TE,hTE⟩:∃ TE,emP rs ins xs=TE:=⟨_,rfl⟩;have hTE':zaM (ins.map (·.nm)) (rs.map (·.nm)) xs 0 ⟨[],[],0,0⟩=TE:=hTE
          have hTl:TE.code.length≤100000:=by
            have:=zds (ins.map (·.nm)) (rs.map (·.nm)) xs 0 ⟨[],[],0,0⟩ hva;rw [hTE'] at this;simp only [List.length_nil] at this;omega
          have HTE:=Hi hTE';have HVL:=Hi hvl
          have HCP:=Hi (show zcm rs ins=(if 600<TE.code.length∨64<TE.cells.length∨24<TE.most then (([],[]),0,4) else ((TE.code,TE.cells),0,0)) by
            unfold zcm;rw [hP];dsimp only;rw [if_neg (by decide),hTE])
          clear hTE hTE' hvl hva hxl hP;unfold maxLen at hm7;go_wp2;go_loopg [72] (xs.length+1) (fun g v wz=>CmX wq (w1.heap.size+2) (.map (some w1.heap.size)) (.map (some (w1.heap.size+1))) (ins.map (·.nm)) (rs.map (·.nm)) xs TE g v wz)
          case atStart=>exact ⟨0,⟨[],[],0,0⟩,_,_,Nat.zero_le _,by omega,rfl,by rw [List.drop_zero];exact HTE.out,em_nil HEH.out,EmK.refl _ _ _ _,Fresh.refl _ _,Fresh.refl _ _⟩
          case round =>
            rename World=>wz
            clear HTE HEH;obtain ⟨i,m,v0,v1,hi2,hgi,rfl,hrun,hem,hek,hf0,hf1⟩:=hrel;have hkz:=hek.kb;have hsz2:=hek.size;have hb1z:Below w1.heap.size w1 wz:=HB1Q.out.trans (hkz.below (by omega) (fun b q=>by omega));have hbwz:Below w.heap.size w wz:=HBWQ.out.trans (hkz.below (by omega) (fun b q=>by omega));have hxz:=HXR.out.mono ExV.mono (fun b q=>q) (zab hb1z fun b q=>q)
            by_cases hlt:i<xs.length
            case neg =>
              obtain rfl:i=xs.length:=by omega
              rw [List.drop_length] at hrun;obtain rfl:m=TE:=hrun;obtain ⟨A0,c0,rfl,hc0,hm0⟩:=zag hem.code;obtain ⟨A1,c1,rfl,hc1,hm1⟩:=zag hem.cells;obtain ⟨p0,p1,-,-,-,p5⟩:=hem.six;have hml:=hem.most;have hbh:=(hb1z.block w.heap.size (by omega)).trans HRH.out;have t0:wz.cell? ⟨w.heap.size,0,none⟩=some (.slice Option.none 0 0):=(by simp [World.cell?,hbh]);have t1:wz.cell? ⟨w.heap.size,1,none⟩=some (.slice Option.none 0 0):=(by simp [World.cell?,hbh]);have t2:wz.cell? ⟨w.heap.size,2,none⟩=some (.slice Option.none 0 0):=(by simp [World.cell?,hbh]);have t3:wz.cell? ⟨w.heap.size,3,none⟩=some (.slice Option.none 0 0):=(by simp [World.cell?,hbh]);have f0:=Lib.frozen_of_heap hbh 0;have f1:=Lib.frozen_of_heap hbh 1;have f2:=Lib.frozen_of_heap hbh 2;have f3:=Lib.frozen_of_heap hbh 3;have HEM:=Hi hem;have HBZ:=Hi hbwz;have HKZ:=Hi hkz;have HBB:=Hi hbh;clear hek hf0 hf1 hxz hem hkz hlt hbh
              rcases (show (600:Int)<(m.code.length:Int)∨((m.code.length:Int)≤600∧(64:Int)<(m.cells.length:Int))∨((m.code.length:Int)≤600∧(m.cells.length:Int)≤64∧(24:Int)<m.most)∨((m.code.length:Int)≤600∧(m.cells.length:Int)≤64∧m.most≤24) by omega) with d0 | ⟨d0,d1⟩ | ⟨d0,d1,d2⟩ | ⟨d0,d1,d2⟩
              case inr.inr.inr =>
                have hce:=HCP.out;rw [if_neg (by omega)] at hce;have HCE:=Hi hce;obtain ⟨hsr,hsn⟩:=sg_src (HR'.out.mono SgC.mono (fun b q=>q) (zab HBZ.out fun b q=>q))
                have HCL:=Hi (zjV A' c' ins.length _ wz.drew (show Src wz.drew 2 A' ins.length (ins.flatMap sgL) from hsr) hsn (by
                  intro u hu;obtain ⟨s,-,hs⟩:=List.mem_flatMap.1 hu;simp [sgL] at hs
                  rcases hs with rfl | rfl <;> rfl) (by omega))
                have hs1b:w.heap.size<w1.heap.size:=(Array.getElem?_eq_some_iff.1 HRH.out).1;clear hce hsr hsn;go_upto_region 25 with fail
                go_region_law ((go_simp;go_at_call 26;refine HCL.out.mono ?_;rintro e9 w9 ⟨A9,c9,rfl,hc9,hm9,hown9,hb9⟩;have hhe:=(hb9.block (w1.heap.size+2) (show w1.heap.size+2<wz.heap.size by omega)).trans HEM.out.heap;have hhb:=(hb9.block w.heap.size (show w.heap.size<wz.heap.size by omega)).trans HBB.out;have z0:w9.cell? ⟨w1.heap.size+1+1,0,none⟩=some (.slice A0 m.code.length c0):=(by simp [World.cell?,hhe]);have z1:w9.cell? ⟨w1.heap.size+1+1,1,none⟩=some (.slice A1 m.cells.length c1):=(by simp [World.cell?,hhe]);have u0:w9.cell? ⟨w.heap.size,0,none⟩=some (.slice Option.none 0 0):=(by simp [World.cell?,hhb]);have u1:w9.cell? ⟨w.heap.size,1,none⟩=some (.slice Option.none 0 0):=(by simp [World.cell?,hhb]);have u2:w9.cell? ⟨w.heap.size,2,none⟩=some (.slice Option.none 0 0):=(by simp [World.cell?,hhb]);have u3:w9.cell? ⟨w.heap.size,3,none⟩=some (.slice Option.none 0 0):=(by simp [World.cell?,hhb]);have g0:=Lib.frozen_of_heap hhb 0;have g1:=Lib.frozen_of_heap hhb 1;have g2:=Lib.frozen_of_heap hhb 2;have g3:=Lib.frozen_of_heap hhb 3;have hl9:=hb9.size;have HO9:=Hi hown9;have HB9:=Hi hb9;have HHB:=Hi hhb;clear hown9 hb9 hhe hhb))
                all_goals
                  have HF:=Hi (zdW w9 w.heap.size (.slice A9 ins.length c9) (.slice (some ⟨wr.heap.size,0,none⟩) rs.length rs.length) (.slice A1 m.cells.length c1) (.slice A0 m.code.length c0))
                  have HO2:=Hi (zam (zam HNM.out (w':=wz) (fun g e hg=>HKZ.out.block g hg (fun q=>by
                    have:=(HNM.out.lt g e).1;omega))) (w':=w9) (fun g e hg=>HB9.out.block g hg))
                  have HO3:=Hi (zam HEM.out.cells (w':=w9) (fun g e hg=>HB9.out.block g hg));have HO4:=Hi (zam HEM.out.code (w':=w9) (fun g e hg=>HB9.out.block g hg));have HB10:=Hi (zac HBZ.out (show Below wz.heap.size wz w9 from zcP HB9.out) HBZ.out.size);go_wp2;refine bodyPost_ret (v := .tuple #[.agg #[.slice A9 ins.length c9,.slice (some ⟨wr.heap.size,0,none⟩) rs.length rs.length,.slice A1 m.cells.length c1,.slice A0 m.code.length c0],.int .i64 0,.int .i64 0]) ?_ rfl ?_
                  · simp [results,Tryz.results8,go_sem,u0,u1,u2,u3]
                  · refine zjW HCE.out rfl rfl rfl rfl (zc8 (zam HO9.out (fun g e hg=>HF.out g (fun q => ?_))) ?_) (zc8 (zam HO2.out (fun g e hg=>HF.out g (fun q => ?_))) ?_) (zc8 (zam HO3.out (fun g e hg=>HF.out g (fun q => ?_))) ?_) (zc8 (zam HO4.out (fun g e hg=>HF.out g (fun q => ?_))) ?_) (fun s hs => ?_) (fun r hr => ?_)
                      (za0 (za0 (za0 (za0 HB10.out (Nat.le_refl _) 0 _) (Nat.le_refl _) 1 _) (Nat.le_refl _) 2 _) (Nat.le_refl _) 3 _)
                    · have:=(HO9.out.lt g e).1
                      have e2:wz.drew.heap.size=wz.heap.size:=rfl
                      omega
                    · show w.heap.size≤wz.heap.size
                      omega
                    · have:=(HO2.out.lt g e).1
                      omega
                    · omega
                    · have:=(HO3.out.lt g e).1
                      omega
                    · omega
                    · have:=(HO4.out.lt g e).1
                      omega
                    · omega
                    · obtain ⟨cs,hc⟩:=zdi HR'.out s hs
                      exact hc.2
                    · obtain ⟨cs,hc⟩:=zdi HR.out r hr
                      exact hc.2.1
              all_goals
                have hce:=HCP.out;rw [if_pos (by omega)] at hce;have HCE:=Hi (show (zcm rs ins).2=(0,4) by rw [hce]);have HSET:=Hi (za0 (za0 (za0 (za0 HBZ.out (Nat.le_refl _) 0 (.slice Option.none 0 0)) (Nat.le_refl _) 1 (.slice Option.none 0 0)) (Nat.le_refl _) 2 (.slice Option.none 0 0)) (Nat.le_refl _) 3 (.slice Option.none 0 0));clear hce;go_wp2;refine bodyPost_ret (v := .tuple #[.agg #[.slice Option.none 0 0,.slice Option.none 0 0,.slice Option.none 0 0,.slice Option.none 0 0],.int .i64 0,.int .i64 4]) ?_ rfl ?_
                · simp [results,Tryz.results8,go_sem,t0,t1,t2,t3]
                · exact RetCmp.none HCE.out (by decide) HSET.out
            obtain ⟨b,o,op,n,nm,A5,c5,ys,hA,hSb,hx,hyc,hym,hyp,hyr,hxb⟩:=exAt hxz hlt;subst hA;obtain ⟨y0,y1,y2,y3⟩:=hxb;rw [zh1 _ _ hx] at hrun;have hbx:=zaa wz (Obj.cells #[.int .i64 op,.int .i64 n,.string ⟨nm.toArray⟩,.slice A5 ys.length c5] 48);have hok:=HVL.out _ (List.mem_of_getElem? hx);have hle2:=zfR (ins.map (·.nm)) (rs.map (·.nm)) (xs.drop (i+1)) ((i+1:Nat):Int) (addE (zat (ins.map (·.nm)) (rs.map (·.nm)) 16 (.mk op n nm ys) m) 32 (i:Int));rw [hrun] at hle2;have hadd:(addE (zat (ins.map (·.nm)) (rs.map (·.nm)) 16 (.mk op n nm ys) m) 32 (i:Int)).code.length=(zat (ins.map (·.nm)) (rs.map (·.nm)) 16 (.mk op n nm ys) m).code.length+1:=by unfold addE;simp
            rw [hadd] at hle2;have hml3:(zat (ins.map (·.nm)) (rs.map (·.nm)) 16 (.mk op n nm ys) m).code.length≤100000:=by omega
            have C1:=zjY (ins.map (·.nm)) (rs.map (·.nm)) (w1.heap.size+2) w1.heap.size (w1.heap.size+1) ins.length rs.length (by omega) (by omega) 15 op n nm A5 c5 ys m (wz.alloc (Obj.cells #[.int .i64 op,.int .i64 n,.string ⟨nm.toArray⟩,.slice A5 ys.length c5] 48)) v0 v1 hok hyp (by unfold maxLen at hym;omega)
              (hyr.mono ExV.mono (fun b q=>by omega) (zab hbx fun b q=>by omega)) (hem.below hbx) ((HMI.out.kept (hkz.block _ (by omega) (by omega))).alloc _) ((HMR.out.kept (hkz.block _ (by omega) (by omega))).alloc _) hml3
            have hbk:b<wz.heap.size:=by omega
            have hml:m.code.length≤100000:=by
              have:=zdQ (ins.map (·.nm)) (rs.map (·.nm)) 16 (.mk op n nm ys) m;omega
            have hml2:=hml3;unfold exV at C1;generalize zat (ins.map (·.nm)) (rs.map (·.nm)) 16 (.mk op n nm ys) m=M1 at *;have HC1:=Hi C1;have HRUN:=Hi hrun;have HBX:=Hi hbx;have HEK:=Hi hek;have HF0:=Hi hf0;have HF1:=Hi hf1;unfold maxLen at hym;clear C1 hrun hbx hek hf0 hf1 hxz hx hok hem hyr hyp hkz hb1z hbwz hadd hSb;go_wp2_with fail
            refine HC1.out.mono ?_
            rintro e w7 ⟨rfl,v07,v17,hw7,hk7,hf07,hf17⟩
            have HADD:=Hi (zij 32 (i:Int) (.inr (.inr (.inr rfl))) hw7 hml2);have HK7:=Hi (EmK.pre HBX.out hk7);have HF07:=Hi (hf07.pre HBX.out.size);have HF17:=Hi (hf17.pre HBX.out.size);clear hk7 hf07 hf17 hw7 HC1;go_wp2_with fail
            refine HADD.out.mono ?_
            rintro e w8 ⟨rfl,v08,v18,hw8,hk8,hf08,hf18⟩
            have HW8:=Hi hw8;have HK8:=Hi hk8;have HF08:=Hi hf08;have HF18:=Hi hf18;clear hw8 hk8 hf08 hf18;go_wp2;go_roundg (xs.length-i)
            case measure=>omega
            case rel =>
              have k1:=HEK.out.trans HK7.out HF0.out HF1.out;have f0:=HF0.out.trans HF07.out HEK.out.size;have f1:=HF1.out.trans HF17.out HEK.out.size;exact ⟨i+1,_,v08,v18,by omega,by omega,by go_num,HRUN.out,HW8.out,k1.trans HK8.out f0 f1,f0.trans HF08.out k1.size,f1.trans HF18.out k1.size⟩
        obtain ⟨b,o,r,rfl,hSb,hks,hnl,htl,y0,y1⟩:=rlAt (HR.out.mono RlC.mono (fun b q=>q) (zab hbw fun b q=>q)) hlt;have p3:wq.cell? ⟨w1.heap.size+1+1,3,none⟩=some (.map (some (w1.heap.size+1))):=(by simp [World.cell?,heh]);have hjmax:j<maxLen:=by unfold maxLen;omega
        have hnlt:=(hown.lt wr.heap.size rfl).2;have hjl:((rs.take j).map fun r=>nmV r.nm).length=j:=by rw [List.length_map,List.length_take];omega
        have hce:wq.cell? ⟨wr.heap.size,j,none⟩=some (.string ⟨#[]⟩):=by
          rw [hown.cellAt j (by omega),List.getElem?_append_right (by omega),hjl,Nat.sub_self,List.getElem?_replicate,if_pos (by omega)]
        have hfr:=hown.frozenAt j;obtain ⟨hst,hgs⟩:=hown.stored j (nmV r.nm);rw [zfS (fun r=>nmV r.nm) rs _ hks] at hst;have hms:=hmap.kept (w':=wq.setCell ⟨wr.heap.size,j,none⟩ (nmV r.nm)) (hgs.block (w1.heap.size+1) (by omega) (fun q=>by injection q;omega));have hss:=hgs.size;obtain ⟨w5,hup,hm5,hg5⟩:=((hms.alloc (.cells #[.string ⟨r.nm.toArray⟩,.string ⟨r.text.toArray⟩] 46)).drew).store (t := 68) Tryz.underlying9 Tryz.underlying68 hjmax (s:=⟨r.nm.toArray⟩) hnl (plainElem_int Tryz.underlying3 (a:=(j:Int)) (WalkArith.wf_i64 (by omega)));have hpl:w1.heap.size+1+1<wq.heap.size:=by omega
        have hblt:b<wq.heap.size:=by omega
        have HST:=Hi hst;have HGS:=Hi hgs;have HM5:=Hi hm5;have HG5:=Hi hg5;have HKB:=Hi hkb;have HKS:=Hi hks;clear hst hgs hms hm5 hg5 hkb hks hbw heh hmap hown hjl;go_wp2_with fail
        go_region
        have hs5:=HG5.out.size;rw [show (((wq.setCell ⟨wr.heap.size,j,none⟩ (nmV r.nm)).alloc (.cells #[.string ⟨r.nm.toArray⟩,.string ⟨r.text.toArray⟩] 46)).drew).heap.size=(wq.setCell ⟨wr.heap.size,j,none⟩ (nmV r.nm)).heap.size+1 from World.size_alloc _ _] at hs5;go_wp2;go_roundg (rs.length-j)
        case measure=>omega
        case rel =>
          refine ⟨j+1,by omega,by omega,by go_num,?_,by rw [← zg9 (·.nm) rs HKS.out];exact HM5.out,?_⟩
          · exact zam (HST.out.alloc (.cells #[.string ⟨r.nm.toArray⟩,.string ⟨r.text.toArray⟩] 46)) (fun g e hg=>HG5.out.block g hg (fun q=>by
              injection q with q
              have e2:some wr.heap.size=some g:=e;injection e2 with e2
              omega))
          · refine ((HKB.out.trans (KB.of_grown HGS.out (fun b _ q=>by injection q with q;exact .inl q.symm))).trans ((KB.of_below (zaa _ _)).trans (KB.of_below (zad (Below.refl _ _))))).trans (KB.of_grown HG5.out (fun b _ q=>by injection q with q;exact .inr q.symm))
    have hbw:Below w.heap.size w wr:=HBW2.out.trans (hkb.below (by omega) (fun b q=>by omega));obtain ⟨b,o,s,rfl,hSb,hks,hnl,hwf,y0,y1⟩:=sgAt (HR'.out.mono SgC.mono (fun b q=>q) (zab hbw fun b q=>q)) hlt;have heh:wr.heap[w1.heap.size+1+1]? = some (.cells #[.slice Option.none 0 0,.slice Option.none 0 0,.map (some w1.heap.size),.map (some (w1.heap.size+1)),.int .i64 0,.int .i64 0] 70 (0,0)):=(hkb.block _ (by omega) (by omega)).trans HE2.out.heap;have p2:wr.cell? ⟨w1.heap.size+1+1,2,none⟩=some (.map (some w1.heap.size)):=(by simp [World.cell?,heh]);have hkmax:k<maxLen:=by unfold maxLen;omega
    obtain ⟨w5,hup,hm5,hg5⟩:=((hmap.alloc (.cells #[.string ⟨s.nm.toArray⟩,.int .i64 s.kind] 40)).drew).store (t := 68) Tryz.underlying9 Tryz.underlying68 hkmax (s:=⟨s.nm.toArray⟩) hnl (plainElem_int Tryz.underlying3 (a:=(k:Int)) (WalkArith.wf_i64 (by omega)));have hpl:w1.heap.size+1+1<wr.heap.size:=by omega
    have HM5:=Hi hm5;have HG5:=Hi hg5;have HKB:=Hi hkb;have HKS:=Hi hks;have hblt:b<wr.heap.size:=by omega
    clear hm5 hg5 hkb hks hbw heh hmap;go_wp2_with fail
    go_region
    go_wp2;go_roundg (ins.length-k)
    case measure=>omega
    case rel=>exact ⟨k+1,by omega,by omega,by go_num,by rw [← zg9 (·.nm) ins HKS.out];exact HM5.out,(HKB.out.trans ((KB.of_below (zaa wr _)).trans (KB.of_below (zad (Below.refl _ _))))).trans (KB.of_grown HG5.out (fun b _ q=>by injection q with q;exact q.symm))⟩
  stop
  done
end Go.Proofs.YtcikenlflcofbaaGreatDoor
