/-
  scan.New and scan.readable.
-/
import Derived.Test.YtcikenlflcofbaaGreatDoorKRoundP
import Derived.Test.YtcikenlflcofbaaGreatDoorVfJ
import Derived.Test.YtcikenlflcofbaaGreatDoorCmp
import Derived.Test.YtcikenlflcofbaaGreatDoorKExcP
import Derived.Test.YtcikenlflcofbaaGreatDoorMacC
set_option maxRecDepth 100000
set_option maxHeartbeats 8000000
namespace Go.Proofs.YtcikenlflcofbaaGreatDoor
open Go.RowKit
def rdB (x:Sg × Int):Bool := !decide (x.1.kind=1) || bitB x.2
def RdR (w:World) (l:List (Sg × Int)) (n g:Nat) (v:Value) (wr:World):Prop:=∃ k:Nat,k≤n∧n-k<g∧v = .int .i64 (k:Int)∧(l.drop k).all rdB=l.all rdB∧wr=w
theorem zf6 {w:World} {p:Pg} {l:Pl} {S:Nat→Prop} {Ai:Option Addr} {ci:Nat} {inp:List Int} (hpg:PgI w S p l) (hS:∀ b,S b→b<w.heap.size) (hi:Rw IaC 1 w S Ai inp.length inp) :
    Calls Tryz.prog 30 #[pgV p l,.slice Ai inp.length ci] w (RetB (zdf p inp) w):=by
  obtain ⟨B1,k1,B2,k2,B3,k3,B4,k4⟩:=l;have m1:=hpg.m1;have h1:=hpg.h1;dsimp only at m1 h1;unfold maxLen at m1;obtain ⟨r,hr⟩:∃ r,zdf p inp=r:=⟨_,rfl⟩;rw [hr];unfold zdf at hr;have hr':(decide (inp.length=p.ins.length) && (p.ins.zip inp).all rdB)=r:=hr;have hb0:=zaa w (Obj.cells (pgC p ⟨B1,k1,B2,k2,B3,k3,B4,k4⟩) 35);have HB0:=Hi hb0;have HR1:=Hi (hpg.r1.mono SgC.mono (fun _ q=>q) (zab hb0 fun b q=>hS b q));have HRI:=Hi (hi.mono IaC.mono (fun _ q=>q) (zab hb0 fun b q=>hS b q));have HS:=Hi hS;clear hr hb0 hpg hi hS
  by_cases hl:inp.length=p.ins.length
  case neg =>
    have HE:=Hi (show false=r by rw [← hr',decide_eq_false hl];rfl);have hne:((inp.length:Int) != (p.ins.length:Int))=true:=by simp;omega
    clear hr' hl;go_enter Tryz.func30,Tryz.ntmps30;go_wp2;go_ret
    exact ⟨zae HE.out,HB0.out⟩
  have hall:(p.ins.zip inp).all rdB=r:=by rw [← hr',decide_eq_true hl];rfl
  have hzl:(p.ins.zip inp).length=inp.length:=by rw [List.length_zip];omega
  have HALL:=Hi hall;have HZL:=Hi hzl;have HL:=Hi hl;have hne:((inp.length:Int) != (p.ins.length:Int))=false:=by simp;omega
  have hle:inp.length≤p.ins.length:=by omega
  clear hr' hall hzl hl;go_enter Tryz.func30,Tryz.ntmps30;go_wp2;have hbx0:=heap_alloc_new w (Obj.cells (pgC p ⟨B1,k1,B2,k2,B3,k3,B4,k4⟩) 35);have hsz:=World.size_alloc w (Obj.cells (pgC p ⟨B1,k1,B2,k2,B3,k3,B4,k4⟩) 35);generalize w.alloc (Obj.cells (pgC p ⟨B1,k1,B2,k2,B3,k3,B4,k4⟩) 35)=W at *;have HSZ:=Hi hsz;have q0:W.cell? ⟨w.heap.size,0,none⟩=some (.slice B1 p.ins.length k1):=by simp [World.cell?,hbx0]
  have hlt0:w.heap.size<W.heap.size:=by omega
  clear hbx0 hsz;go_loopg [15] (inp.length+1) (fun g v wr=>RdR W (p.ins.zip inp) inp.length g v wr)
  case atStart=>exact ⟨0,Nat.zero_le _,by omega,rfl,by rw [List.drop_zero],rfl⟩
  case round =>
    obtain ⟨k,hk,hgk,rfl,hall,rfl⟩:=hrel
    by_cases hlt:k<inp.length
    case neg =>
      obtain rfl:k=inp.length:=by omega
      rw [List.drop_eq_nil_of_le (by rw [HZL.out];exact Nat.le_refl _)] at hall;have HE:=Hi (show true=r by rw [← HALL.out,← hall];rfl);clear hall hlt;go_wp2;go_ret
      exact ⟨zae HE.out,HB0.out⟩
    have hkp:k<p.ins.length:=by omega
    obtain ⟨b,o,s,hA,hSb,hx,-,-,y0,y1⟩:=sgAt HR1.out hkp;obtain ⟨b',o',z,hA',hSb',hz,u0⟩:=iaAt HRI.out hlt;have hA2:B1=some ⟨b,o,none⟩:=hA;subst hA2;subst hA';have hzk:(p.ins.zip inp)[k]? = some (s,z):=by rw [List.getElem?_zip_eq_some];exact ⟨hx,hz⟩
    have hget:(p.ins.zip inp)[k]'(by rw [HZL.out];exact hlt)=(s,z):=by
      rw [List.getElem?_eq_getElem (by rw [HZL.out];exact hlt)] at hzk;injection hzk
    rw [List.drop_eq_getElem_cons (by rw [HZL.out];exact hlt),hget,List.all_cons] at hall;obtain ⟨nm,kd⟩:=s;dsimp only at y0 y1;have hrd:rdB (⟨nm,kd⟩,z)=(!decide (kd=1) || decide (z=0∨z=1)):=rfl;rw [hrd] at hall;have HAL:=Hi hall;have hkI:(k:Int)<(p.ins.length:Int):=by omega
    clear hall hx hz hzk hget hrd hSb hSb'
    rcases (show kd≠1∨(kd=1∧z=0)∨(kd=1∧z=1)∨(kd=1∧z≠0∧z≠1) by omega) with e | ⟨rfl,rfl⟩ | ⟨rfl,rfl⟩ | ⟨rfl,e0,e1⟩
    case inr.inr.inr =>
      have HE:=Hi (show false=r by rw [← HALL.out,← HAL.out];simp [e0,e1]);have f0:(z != 0)=true:=by simpa using e0
      have f1:(z != 1)=true:=by simpa using e1
      clear e0 e1 HAL;go_wp2;go_ret
      exact ⟨zae HE.out,HB0.out⟩
    case inl =>
      have hb:(kd == 1)=false:=by simpa using e
      have HA2:=Hi (show ((p.ins.zip inp).drop (k+1)).all rdB=(p.ins.zip inp).all rdB by rw [← HAL.out];simp [e]);clear e HAL;go_wp2;go_roundg (inp.length-k)
      case measure=>omega
      case rel=>exact ⟨k+1,by omega,by omega,by go_num,HA2.out,rfl⟩
    all_goals
      have HA2:=Hi (show ((p.ins.zip inp).drop (k+1)).all rdB=(p.ins.zip inp).all rdB by rw [← HAL.out];simp);clear HAL;go_wp2;go_roundg (inp.length-k)
      case measure=>omega
      case rel=>exact ⟨k+1,by omega,by omega,by go_num,HA2.out,rfl⟩
def RetNew (p:Pg) (w:World) (e:Ending) (w':World):Prop:=
  Below w.heap.size w w'∧(((verP p).2.2≠0∧e = .returned (.tuple #[.agg #[.slice Option.none 0 0,.slice Option.none 0 0],.int .i64 1])) ∨
    ((verP p).2.2=0∧∃ gv gc,e = .returned (.tuple #[.agg #[.slice (some ⟨gv,0,none⟩) p.rls.length p.rls.length,.slice (some ⟨gc,0,none⟩) p.cells.length p.cells.length],.int .i64 0])∧w.heap.size≤gv∧w.heap.size≤gc∧MemW w' w.heap.size gv p.rls.length gc p.cells.length p (newP p).vals (newP p).cells))
theorem zkV:(Tryz.prog.info? 83).map (fun i=>(i.zero,i.size,i.bytes))=some (some (.agg #[.bool false,.int .i64 0]),2,16):=by kernel_rfl
theorem zba {n b:Nat} {w w':World} (h:Below n w w') (hb:n≤b) (hn:n≤w.heap.size) (i:Nat) (v:Value):Below n w (w'.setCell ⟨b,i,none⟩ v):=
  have g:=zaf w' b i v
  ⟨g.os.trans h.os,g.tape.trans h.tape,g.output.trans h.output,Nat.le_trans h.size g.size,fun z hz=>(g.block z (Nat.lt_of_lt_of_le (Nat.lt_of_lt_of_le hz hn) h.size) (fun q=>by injection q;omega)).trans (h.block z hz)⟩
theorem zkG {w:World} {b0 g n:Nat} {vals:List Int} {cur:Array Value} (hh:w.heap[g]? = some (.cells cur 3 (0,0))) (hc:cur.toList=vals.map (Value.int .i64)) (hl:vals.length=n) (hn:n≤100000) (hb:b0≤g):VaW w b0 g n n vals:=by
  have hs:cur.size=n:=by rw [← Array.length_toList,hc,List.length_map,hl]
  refine ⟨⟨by rw [List.length_map];omega,.inr ⟨g,n,cur,rfl,hb,hh,Nat.le_refl _,by unfold maxLen;omega,by omega,?_⟩⟩,hl⟩
  rw [List.take_of_length_le (by rw [Array.length_toList];omega),hc]
theorem ce_mk {w:World} {b0 g n:Nat} {cs:List Cs} {cur:Array Value} (hh:w.heap[g]? = some (.cells cur 83 (0,0))) (hc:cur.toList=cs.flatMap csL) (hl:cs.length=n) (hn:n≤100000) (hb:b0≤g):CeW w b0 g n n cs:=by
  have hs:cur.size=n*2:=by rw [← Array.length_toList,hc,ziA,hl]
  refine ⟨⟨by rw [ziA,hl],.inr ⟨g,n,cur,rfl,hb,hh,Nat.le_refl _,by unfold maxLen;omega,hs,?_⟩⟩,hl⟩
  rw [List.take_of_length_le (by rw [Array.length_toList];omega),hc]
theorem zhp (WA:World) (oA oB:Obj) {n:Nat} (hn:WA.heap.size=n):(((WA.alloc oA).alloc oB).drew).heap[n]? = some oA∧(((WA.alloc oA).alloc oB).drew).heap[n+1]? = some oB:=by
  subst hn;refine ⟨(Lib.alloc_old _ oB _ (by rw [World.size_alloc];omega)).trans (heap_alloc_new WA oA),?_⟩
  have:=heap_alloc_new (WA.alloc oA) oB;rw [World.size_alloc] at this;exact this
theorem zbS (w1:World) (bb:Nat) (x y:Value):((w1.setCell ⟨bb,0,none⟩ x).setCell ⟨bb,1,none⟩ y).heap.size=w1.heap.size:=by simp
theorem zdF {w1:World} {bb:Nat} {a b:Value} {t:TypeId} (h:w1.heap[bb]? = some (.cells #[a,b] t (0,0))) (x y:Value) (oA oB:Obj) :
    (((((w1.setCell ⟨bb,0,none⟩ x).setCell ⟨bb,1,none⟩ y).alloc oA).alloc oB).drew).cell? ⟨bb,0,none⟩=some x∧(((((w1.setCell ⟨bb,0,none⟩ x).setCell ⟨bb,1,none⟩ y).alloc oA).alloc oB).drew).cell? ⟨bb,1,none⟩=some y:=by
  have hlt:=(Array.getElem?_eq_some_iff.1 h).1;have h1:=heap_setCell_same w1 bb 0 _ _ x h;have h2:=heap_setCell_same (w1.setCell ⟨bb,0,none⟩ x) bb 1 _ _ y h1;have hs:=zbS w1 bb x y;have h3:(((((w1.setCell ⟨bb,0,none⟩ x).setCell ⟨bb,1,none⟩ y).alloc oA).alloc oB).drew).heap[bb]? = _:=(Lib.alloc_old _ oB bb (by rw [World.size_alloc];omega)).trans ((Lib.alloc_old _ oA bb (by omega)).trans h2);exact ⟨by simp [World.cell?,h3],by simp [World.cell?,h3]⟩
theorem zgg {n bb:Nat} {w w1:World} (h:Below n w w1) (hb:n≤bb) (hn:n≤w.heap.size) (x y:Value) (oA oB:Obj):Below n w (((((w1.setCell ⟨bb,0,none⟩ x).setCell ⟨bb,1,none⟩ y).alloc oA).alloc oB).drew):=by
  have h2:=zba (zba h hb hn 0 x) hb hn 1 y;have hs:=zbS w1 bb x y;exact zad ((h2.alloc (by have:=h2.size;omega) oA).alloc (by rw [World.size_alloc];have:=h2.size;omega) oB)
theorem zgk {p:Pg} (h:(verP p).2.2=0):p.ins.length≤64∧p.rls.length≤16∧p.cells.length≤64∧p.code.length≤600:=by
  unfold verP at h
  by_cases hh:hdrP p=0
  · unfold hdrP at hh
    by_cases hb:64<p.ins.length∨16<p.rls.length∨64<p.cells.length∨600<p.code.length
    · rw [if_pos hb] at hh
      exact absurd hh (by decide)
    · omega
  · rw [if_pos hh] at h
    exact absurd h hh
theorem zc6 (n:Nat):(madeCells (Value.int .i64 0).cells n).toList=(List.replicate n (0:Int)).map (Value.int .i64):=by
  rw [show (Value.int .i64 0).cells = #[Value.int .i64 0] from rfl,toList_madeCells_one,List.map_replicate]
theorem zgw:∀ (n:Nat),(madeCells (Value.agg #[.bool false,.int .i64 0]).cells (n*2)).toList=(List.replicate n (⟨false,0⟩:Cs)).flatMap csL:=by
  intro n;rw [show (Value.agg #[.bool false,.int .i64 0]).cells = #[.bool false,.int .i64 0] from rfl]
  apply List.ext_getElem?
  intro j
  have hr:∀ n j,((List.replicate n (⟨false,0⟩:Cs)).flatMap csL)[j]? = if j<n*2 then some (if j % 2=0 then Value.bool false else .int .i64 0) else Option.none:=by
    intro n
    induction n with
    | zero=>intro j;simp
    | succ n ih =>
      intro j;rw [List.replicate_succ,List.flatMap_cons]
      match j with
      | 0=>simp [csL]
      | 1 =>
        have h1:1<(n+1)*2:=by omega
        rw [if_pos h1]
        rfl
      | j+2 =>
        have:=ih j;rw [show (csL ⟨false,0⟩++(List.replicate n (⟨false,0⟩:Cs)).flatMap csL)[j+2]? = ((List.replicate n (⟨false,0⟩:Cs)).flatMap csL)[j]? from by simp [csL],this]
        by_cases hj:j<n*2
        · have h2:j+2<(n+1)*2:=by omega
          have h3:(j+2) % 2=j % 2:=by omega
          rw [if_pos hj,if_pos h2,h3]
        · have h2:¬ j+2<(n+1)*2:=by omega
          rw [if_neg hj,if_neg h2]
  rw [hr]
  by_cases hj:j<n*2
  · rw [if_pos hj]
    have:j % 2=0∨j % 2=1:=by omega
    rcases this with h | h <;> simp [madeCells,hj,h]
  · rw [if_neg hj]
    simp [madeCells,hj]
theorem zk8 {w:World} {p:Pg} {l:Pl} (hpg:PgI w (Old w) p l):Calls Tryz.prog 29 #[pgV p l] w (RetNew p w):=by
  obtain ⟨B1,k1,B2,k2,B3,k3,B4,k4⟩:=l;have hb1:=zaa w (Obj.cells (pgC p ⟨B1,k1,B2,k2,B3,k3,B4,k4⟩) 35);have hb2:=zaa (w.alloc (Obj.cells (pgC p ⟨B1,k1,B2,k2,B3,k3,B4,k4⟩) 35)) (Obj.cells #[.slice Option.none 0 0,.slice Option.none 0 0] 53);have hb12:=zac hb1 hb2 hb1.size;have HC:=Hi (zht (hpg.below hb12));have hx1:=(hb2.block w.heap.size (by rw [World.size_alloc];omega)).trans (heap_alloc_new w (Obj.cells (pgC p ⟨B1,k1,B2,k2,B3,k3,B4,k4⟩) 35));have hx2:=heap_alloc_new (w.alloc (Obj.cells (pgC p ⟨B1,k1,B2,k2,B3,k3,B4,k4⟩) 35)) (Obj.cells #[.slice Option.none 0 0,.slice Option.none 0 0] 53);rw [World.size_alloc] at hx2;have hs2:((w.alloc (Obj.cells (pgC p ⟨B1,k1,B2,k2,B3,k3,B4,k4⟩) 35)).alloc (Obj.cells #[.slice Option.none 0 0,.slice Option.none 0 0] 53)).heap.size=w.heap.size+2:=by simp only [World.size_alloc]
  have hsm:=fun h=>zgk (p:=p) h
  obtain ⟨va,vm,ve,hvp⟩:∃ a b c,verP p=(a,b,c):=⟨_,_,_,rfl⟩;have HVP:=Hi hvp;have HSM:=Hi hsm;have HB:=Hi hb12;have HX1:=Hi hx1;have HX2:=Hi hx2;have HS2:=Hi hs2;rw [hvp] at HC;clear hb1 hb2 hb12 hx1 hx2 hs2 hsm hvp hpg;go_enter Tryz.func29,Tryz.ntmps29;go_wp2_with fail
  refine HC.out.mono ?_
  rintro e w1 ⟨rfl,hb3⟩
  dsimp only;generalize (w.alloc (Obj.cells (pgC p ⟨B1,k1,B2,k2,B3,k3,B4,k4⟩) 35)).alloc (Obj.cells #[.slice Option.none 0 0,.slice Option.none 0 0] 53)=W2 at *;have hs2:=HS2.out;have hs3:=hb3.size;have hx1:=(hb3.block w.heap.size (by omega)).trans HX1.out;have hx2:=(hb3.block (w.heap.size+1) (by omega)).trans HX2.out;have q1:w1.cell? ⟨w.heap.size,1,none⟩=some (.slice B2 p.rls.length k2):=by simp [World.cell?,hx1]
  have q2:w1.cell? ⟨w.heap.size,2,none⟩=some (.slice B3 p.cells.length k3):=by simp [World.cell?,hx1]
  have t0:w1.cell? ⟨w.heap.size+1,0,none⟩=some (.slice Option.none 0 0):=by simp [World.cell?,hx2]
  have t1:w1.cell? ⟨w.heap.size+1,1,none⟩=some (.slice Option.none 0 0):=by simp [World.cell?,hx2]
  have f0:=Lib.frozen_of_heap hx2 0;have f1:=Lib.frozen_of_heap hx2 1;have HBW:=Hi (HB.out.trans (hb3.mono (by omega)));have hl1:w.heap.size+1<w1.heap.size:=by omega
  have hl0:w.heap.size<w1.heap.size:=by omega
  have HXM:=Hi hx2;clear hs2 hs3 hx1 hx2 hb3
  by_cases hve:ve=0
  case neg =>
    have hvb:(ve != 0)=true:=by simpa using hve
    have HE:=Hi (show (verP p).2.2≠0 by rw [HVP.out];exact hve);have HSET:=Hi (zba (b:=w.heap.size+1) (zba (b:=w.heap.size+1) HBW.out (by omega) (Nat.le_refl _) 0 (.slice Option.none 0 0)) (by omega) (Nat.le_refl _) 1 (.slice Option.none 0 0));clear hve;go_wp2;refine bodyPost_ret (v := .tuple #[.agg #[.slice Option.none 0 0,.slice Option.none 0 0],.int .i64 1]) ?_ rfl ?_
    · simp [results,Tryz.results29,go_sem,t0,t1]
    · exact ⟨HSET.out,.inl ⟨HE.out,rfl⟩⟩
  subst hve;obtain ⟨-,hr16,hc64,-⟩:=HSM.out (by rw [HVP.out]);obtain ⟨ti,hti,hzi⟩:=Option.map_eq_some_iff.1 zdD;obtain ⟨hz0,hz1,hz2⟩:ti.zero=some (.int .i64 0)∧ti.size=1∧ti.bytes=8:=by simpa using hzi
  obtain ⟨tc,htc,hzc⟩:=Option.map_eq_some_iff.1 zkV;obtain ⟨hy0,hy1,hy2⟩:tc.zero=some (.agg #[.bool false,.int .i64 0])∧tc.size=2∧tc.bytes=16:=by simpa using hzc
  have hmk1:=fun W=>run_makeSlice (P := Tryz.prog) (w:=W) 38 3 ti _ Tryz.underlying38 hti hz0 .i64 .i64 (p.rls.length:Int) (p.rls.length:Int) (by omega) (Int.le_refl _) (by rw [hz1];omega) (by rw [hz2];omega) (by omega)
  have hmk2:=fun W=>run_makeSlice (P := Tryz.prog) (w:=W) 43 83 tc _ Tryz.underlying43 htc hy0 .i64 .i64 (p.cells.length:Int) (p.cells.length:Int) (by omega) (Int.le_refl _) (by rw [hy1];omega) (by rw [hy2];omega) (by omega)
  rw [hz1,Nat.mul_one,Int.toNat_natCast] at hmk1;rw [hy1,Int.toNat_natCast] at hmk2;clear hti hzi hz0 hz1 hz2 htc hzc hy0 hy1 hy2;go_upto_region 4 with fail
  go_region
  · have HH:=Hi (zhp ((w1.setCell ⟨w.heap.size+1,0,none⟩ (.slice (some ⟨w1.heap.size,0,none⟩) p.rls.length p.rls.length)).setCell ⟨w.heap.size+1,1,none⟩ (.slice (some ⟨w1.heap.size+1,0,none⟩) p.cells.length p.cells.length)) (Obj.cells (madeCells #[.int .i64 0] p.rls.length) 3) (Obj.cells (madeCells #[.bool false,.int .i64 0] (p.cells.length*2)) 83) (zbS w1 (w.heap.size+1) _ _))
    have HBB:=Hi (zgg (bb:=w.heap.size+1) HBW.out (by omega) (Nat.le_refl _) (.slice (some ⟨w1.heap.size,0,none⟩) p.rls.length p.rls.length) (.slice (some ⟨w1.heap.size+1,0,none⟩) p.cells.length p.cells.length) (Obj.cells (madeCells #[.int .i64 0] p.rls.length) 3) (Obj.cells (madeCells #[.bool false,.int .i64 0] (p.cells.length*2)) 83))
    obtain ⟨z0,z1⟩:=zdF HXM.out (.slice (some ⟨w1.heap.size,0,none⟩) p.rls.length p.rls.length) (.slice (some ⟨w1.heap.size+1,0,none⟩) p.cells.length p.cells.length) (Obj.cells (madeCells #[.int .i64 0] p.rls.length) 3) (Obj.cells (madeCells #[.bool false,.int .i64 0] (p.cells.length*2)) 83)
    go_wp2
    generalize ((((w1.setCell ⟨w.heap.size+1,0,none⟩ (.slice (some ⟨w1.heap.size,0,none⟩) p.rls.length p.rls.length)).setCell ⟨w.heap.size+1,1,none⟩ (.slice (some ⟨w1.heap.size+1,0,none⟩) p.cells.length p.cells.length)).alloc (Obj.cells (madeCells #[.int .i64 0] p.rls.length) 3)).alloc (Obj.cells (madeCells #[.bool false,.int .i64 0] (p.cells.length*2)) 83)).drew=WF at *
    refine bodyPost_ret (v := .tuple #[.agg #[.slice (some ⟨w1.heap.size,0,none⟩) p.rls.length p.rls.length,.slice (some ⟨w1.heap.size+1,0,none⟩) p.cells.length p.cells.length],.int .i64 0]) ?_ rfl ?_
    · simp [results,Tryz.results29,go_sem,z0,z1]
    · exact ⟨HBB.out,.inr ⟨by rw [HVP.out],w1.heap.size,w1.heap.size+1,rfl,by omega,by omega,⟨zkG HH.out.1 (zc6 _) (List.length_replicate ..) (by omega) (by omega),ce_mk HH.out.2 (zgw _) (List.length_replicate ..) (by omega) (by omega),by omega⟩⟩⟩
  · have HH:=Hi (zhp ((w1.setCell ⟨w.heap.size+1,0,none⟩ (.slice (some ⟨w1.heap.size+1,0,none⟩) p.rls.length p.rls.length)).setCell ⟨w.heap.size+1,1,none⟩ (.slice (some ⟨w1.heap.size,0,none⟩) p.cells.length p.cells.length)) (Obj.cells (madeCells #[.bool false,.int .i64 0] (p.cells.length*2)) 83) (Obj.cells (madeCells #[.int .i64 0] p.rls.length) 3) (zbS w1 (w.heap.size+1) _ _))
    have HBB:=Hi (zgg (bb:=w.heap.size+1) HBW.out (by omega) (Nat.le_refl _) (.slice (some ⟨w1.heap.size+1,0,none⟩) p.rls.length p.rls.length) (.slice (some ⟨w1.heap.size,0,none⟩) p.cells.length p.cells.length) (Obj.cells (madeCells #[.bool false,.int .i64 0] (p.cells.length*2)) 83) (Obj.cells (madeCells #[.int .i64 0] p.rls.length) 3))
    obtain ⟨z0,z1⟩:=zdF HXM.out (.slice (some ⟨w1.heap.size+1,0,none⟩) p.rls.length p.rls.length) (.slice (some ⟨w1.heap.size,0,none⟩) p.cells.length p.cells.length) (Obj.cells (madeCells #[.bool false,.int .i64 0] (p.cells.length*2)) 83) (Obj.cells (madeCells #[.int .i64 0] p.rls.length) 3)
    go_wp2
    generalize ((((w1.setCell ⟨w.heap.size+1,0,none⟩ (.slice (some ⟨w1.heap.size+1,0,none⟩) p.rls.length p.rls.length)).setCell ⟨w.heap.size+1,1,none⟩ (.slice (some ⟨w1.heap.size,0,none⟩) p.cells.length p.cells.length)).alloc (Obj.cells (madeCells #[.bool false,.int .i64 0] (p.cells.length*2)) 83)).alloc (Obj.cells (madeCells #[.int .i64 0] p.rls.length) 3)).drew=WF at *
    refine bodyPost_ret (v := .tuple #[.agg #[.slice (some ⟨w1.heap.size+1,0,none⟩) p.rls.length p.rls.length,.slice (some ⟨w1.heap.size,0,none⟩) p.cells.length p.cells.length],.int .i64 0]) ?_ rfl ?_
    · simp [results,Tryz.results29,go_sem,z0,z1]
    · exact ⟨HBB.out,.inr ⟨by rw [HVP.out],w1.heap.size+1,w1.heap.size,rfl,by omega,by omega,⟨zkG HH.out.2 (zc6 _) (List.length_replicate ..) (by omega) (by omega),ce_mk HH.out.1 (zgw _) (List.length_replicate ..) (by omega) (by omega),by omega⟩⟩⟩
end Go.Proofs.YtcikenlflcofbaaGreatDoor
namespace Go.Proofs.YtcikenlflcofbaaGreatDoor
theorem ziF {p:Pg} {inp:List Int} (hi:zeO p inp):∀ {l:List Ins} {i:Int} {v:Vs} {most m:Int} {s:Xs},runG p l i v most=(0,m,0)→StOk p v s→∃ v',StOk p v' (l.foldl (exP p inp) s)
  | [],_,v,_,_,s,_,hs=>⟨v,hs⟩
  | c::l,i,v,most,m,s,h,hs=>by
    obtain ⟨v',hst,hr⟩:=zfe h;rw [List.foldl_cons];exact ziF hi hr (ex_ok hi hst hs)
theorem zjI {p:Pg} (hv:(verP p).2.2=0):∃ m,runG p p.code 0 ⟨[],0,0⟩ 0=(0,m,0):=by
  unfold verP at hv
  by_cases hh:hdrP p=0
  · rw [if_neg (by simpa using hh)] at hv
    obtain ⟨a,b,c,hq⟩:∃ a b c,runG p p.code 0 ⟨[],0,0⟩ 0=(a,b,c):=⟨_,_,_,rfl⟩
    rw [hq] at hv
    dsimp only at hv
    subst hv
    exact ⟨b,zfg hq⟩
  · rw [if_pos hh] at hv
    exact absurd hv hh
def zjJ (p:Pg) (m:Mm):Prop:=StOk p ⟨[],0,0⟩ ⟨[],m.vals,m.cells⟩
theorem zlV {p:Pg} {inp:List Int} {m:Mm} (hv:(verP p).2.2=0) (hi:zeO p inp) (h:zjJ p m):zjJ p (zem p m inp):=by
  obtain ⟨z,hr⟩:=zjI hv;obtain ⟨v',hs⟩:=ziF hi hr h;exact ⟨TyL.nil,hs.vl,hs.vb,hs.cl,hs.cb⟩
theorem zfr {p:Pg}:∀ {l:List Ins} {i:Int} {v:Vs} {most m:Int},runG p l i v most=(0,m,0)→(∀ (j:Nat) (c:Cl),j<v.used→p.cells[j]? = some c→0≤c.n)→∀ (j:Nat) (c:Cl),p.cells[j]? = some c→0≤c.n
  | [],i,v,most,m,h,hp,j,c,hj=>by
    rw [zdV] at h
    split at h
    · injection h with _ h;injection h with _ h;exact absurd h (by decide)
    split at h
    · injection h with _ h;injection h with _ h;exact absurd h (by decide)
    rename_i h2;exact hp j c (by have:=(List.getElem?_eq_some_iff.1 hj).1;omega) hj
  | x::l,i,v,most,m,h,hp,j,c,hj=>by
    obtain ⟨v',hst,hr⟩:=zfe h;refine zfr hr (fun j' c' hlt hc => ?_) j c hj
    obtain ⟨-,harg,-,k,-,hv⟩:=zdk hst
    rcases hv with ⟨-,-,rfl⟩ | ⟨h32,-,rfl⟩
    · exact hp j' c' hlt hc
    · dsimp only at hlt
      cases hkb:zaG x.op with
      | false=>rw [hkb] at hlt;exact hp j' c' hlt hc
      | true =>
        rw [hkb,if_pos rfl] at hlt
        rcases Nat.lt_succ_iff_lt_or_eq.1 hlt with q | rfl
        · exact hp j' c' q hc
        · have h17:=zc2.1 hkb
          unfold argP at harg
          rw [if_neg (by omega),if_neg (by omega),if_neg (by omega),if_neg (by omega),if_neg (by omega),if_neg (by rw [hkb];decide),hc] at harg
          simp only [Bool.and_eq_true,decide_eq_true_eq] at harg
          have:=harg.2
          unfold zgn at this
          simp only [decide_eq_true_eq] at this
          exact this.2.1
theorem zk1 {p:Pg} (hv:(verP p).2.2=0):zjJ p (newP p):=by
  obtain ⟨z,hr⟩:=zjI hv;have hc:=zfr hr (fun j c hj _=>absurd hj (Nat.not_lt_zero _));refine ⟨TyL.nil,List.length_replicate ..,fun x hx => .inl (List.eq_of_mem_replicate hx),List.length_replicate ..,fun i l c h1 h2 => ?_⟩
  have hcc:c=⟨false,0⟩:=List.eq_of_mem_replicate (List.mem_of_getElem? h2);subst hcc;rw [zbK];refine ⟨fun _=>rfl,Int.le_refl _,?_⟩
  have:=hc i l h1;unfold capP
  split
  · dsimp only;omega
  split
  · exact this
  split <;> decide
theorem zhd {p:Pg} {inp:List Int} (h:zdf p inp=true):zeO p inp:=by
  unfold zdf at h;rw [Bool.and_eq_true,decide_eq_true_eq] at h;refine ⟨h.1,fun i s x hs hx hk => ?_⟩
  have:=List.all_eq_true.1 h.2 (s,x) (List.mem_of_getElem? (by rw [List.getElem?_zip_eq_some];exact ⟨hs,hx⟩));simp [hk,bitB] at this
  exact this
theorem zdh (p:Pg) (x:List Int) (xs:List (List Int)) (m:Mm) (l:List (List Int)):runL p (x::xs) m l=if zdf p x=false then ([],1) else runL p xs (zem p m x) (l++[(zem p m x).vals]):=rfl
end Go.Proofs.YtcikenlflcofbaaGreatDoor
