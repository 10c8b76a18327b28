/-
  The emitter of the compiler: its variable and add.
-/
import Derived.Test.YtcikenlflcofbaaGreatDoorM1
import Derived.Test.YtcikenlflcofbaaGreatDoorP1
import Derived.Deep.Cut
import Derived.Deep.RegionLaw
import Derived.Test.YtcikenlflcofbaaGreatDoorP2
set_option maxRecDepth 100000
set_option maxHeartbeats 8000000
namespace Go.Proofs.YtcikenlflcofbaaGreatDoor
open Go.RowKit
def insC (i:Ins):List Value:=[.int .i64 i.op,.int .i64 i.a]
def clC (c:Cl):List Value:=[.int .i64 c.op,.int .i64 c.n]
theorem zgs:(Tryz.prog.info? 76).map (fun i=>(i.zero,i.size,i.bytes))=some (some (.agg #[.int .i64 0,.int .i64 0]),2,16):=by kernel_rfl
theorem zkU:(Tryz.prog.info? 89).map (fun i=>(i.zero,i.size,i.bytes))=some (some (.agg #[.int .i64 0,.int .i64 0]),2,16):=by kernel_rfl
theorem zcr (i:Ins):∀ u∈insC i,u.oneCell'=true:=by
  intro u hu;simp only [insC,List.mem_cons,List.not_mem_nil,or_false] at hu
  rcases hu with rfl | rfl <;> rfl
theorem zkQ (i:Cl):∀ u∈clC i,u.oneCell'=true:=by
  intro u hu;simp only [clC,List.mem_cons,List.not_mem_nil,or_false] at hu
  rcases hu with rfl | rfl <;> rfl
structure EmW (w:World) (eb:Nat) (mi mr:Value) (m:Em) (v0 v1:Value):Prop where
  heap:w.heap[eb]? = some (.cells #[v0,v1,mi,mr,.int .i64 m.height,.int .i64 m.most] 70 (0,0))
  code:w.ownsRow (eb+1) 76 2 v0 m.code.length (m.code.flatMap insC)
  cells:w.ownsRow (eb+1) 89 2 v1 m.cells.length (m.cells.flatMap clC)
  apart:∀ g,v0.ownBlock=some g→v1.ownBlock≠some g
  low : -(3*(m.code.length:Int))≤m.height
  high:m.height≤m.code.length
  most:0≤m.most∧m.most≤m.code.length
  few:m.cells.length≤m.code.length
structure EmK (w:World) (eb:Nat) (v0 v1:Value) (w':World):Prop where
  os:w'.os=w.os
  tape:w'.tape=w.tape
  output:w'.output=w.output
  size:w.heap.size≤w'.heap.size
  block:∀ k,k<w.heap.size→k≠eb→v0.ownBlock≠some k→v1.ownBlock≠some k→w'.heap[k]? = w.heap[k]?
theorem EmK.refl (w:World) (eb:Nat) (v0 v1:Value):EmK w eb v0 v1 w:=⟨rfl,rfl,rfl,Nat.le_refl _,fun _ _ _ _ _=>rfl⟩
def Fresh (w:World) (v v':Value):Prop:=v'.ownBlock=v.ownBlock∨∃ g,v'.ownBlock=some g∧w.heap.size≤g
theorem Fresh.refl (w:World) (v:Value):Fresh w v v := .inl rfl
theorem Fresh.ne {w:World} {v v':Value} (h:Fresh w v v') {k:Nat} (hk:k<w.heap.size) (hv:v.ownBlock≠some k):v'.ownBlock≠some k:=by
  rcases h with e | ⟨g,e,hg⟩
  · rw [e];exact hv
  · rw [e];intro q;injection q;omega
theorem Fresh.trans {w w':World} {v v' v'':Value} (h:Fresh w v v') (k:Fresh w' v' v'') (hs:w.heap.size≤w'.heap.size):Fresh w v v'':=by
  rcases k with e | ⟨g,e,hg⟩
  · rcases h with f | ⟨q,f,hq⟩
    · exact .inl (e.trans f)
    · exact .inr ⟨q,e.trans f,hq⟩
  · exact .inr ⟨g,e,Nat.le_trans hs hg⟩
theorem EmK.trans {w w' w'':World} {eb:Nat} {v0 v1 v0' v1':Value} (h:EmK w eb v0 v1 w') (k:EmK w' eb v0' v1' w'') (f0:Fresh w v0 v0') (f1:Fresh w v1 v1'):EmK w eb v0 v1 w'' :=
  ⟨k.os.trans h.os,k.tape.trans h.tape,k.output.trans h.output,Nat.le_trans h.size k.size,fun b hb hn h0 h1=>(k.block b (Nat.lt_of_lt_of_le hb h.size) hn (f0.ne hb h0) (f1.ne hb h1)).trans (h.block b hb hn h0 h1)⟩
theorem EmK.below {w w' w'':World} {eb:Nat} {v0 v1:Value} (h:EmK w eb v0 v1 w') (k:Below w'.heap.size w' w''):EmK w eb v0 v1 w'' :=
  ⟨k.os.trans h.os,k.tape.trans h.tape,k.output.trans h.output,Nat.le_trans h.size k.size,fun b hb hn h0 h1=>(k.block b (Nat.lt_of_lt_of_le hb h.size)).trans (h.block b hb hn h0 h1)⟩
theorem EmK.pre {w w' w'':World} {eb:Nat} {v0 v1:Value} (h:Below w.heap.size w w') (k:EmK w' eb v0 v1 w''):EmK w eb v0 v1 w'' :=
  ⟨k.os.trans h.os,k.tape.trans h.tape,k.output.trans h.output,Nat.le_trans h.size k.size,fun b hb hn h0 h1=>(k.block b (Nat.lt_of_lt_of_le hb h.size) hn h0 h1).trans (h.block b hb)⟩
theorem EmW.lt {w:World} {eb:Nat} {mi mr:Value} {m:Em} {v0 v1:Value} (h:EmW w eb mi mr m v0 v1):eb<w.heap.size:=(Array.getElem?_eq_some_iff.1 h.heap).1
theorem EmW.below {w w':World} {eb:Nat} {mi mr:Value} {m:Em} {v0 v1:Value} (h:EmW w eb mi mr m v0 v1) (k:Below w.heap.size w w'):EmW w' eb mi mr m v0 v1:=
  ⟨(k.block eb h.lt).trans h.heap,zbg h.code k (Nat.le_refl _),zbg h.cells k (Nat.le_refl _),h.apart,h.low,h.high,h.most,h.few⟩
theorem EmW.six {w:World} {eb:Nat} {mi mr:Value} {m:Em} {v0 v1:Value} (h:EmW w eb mi mr m v0 v1) :
    w.cell? ⟨eb,0,none⟩=some v0∧w.cell? ⟨eb,1,none⟩=some v1∧w.cell? ⟨eb,2,none⟩=some mi∧w.cell? ⟨eb,3,none⟩=some mr∧w.cell? ⟨eb,4,none⟩=some (.int .i64 m.height)∧w.cell? ⟨eb,5,none⟩=some (.int .i64 m.most):=by
  have hh:=h.heap;exact ⟨by simp [World.cell?,hh],by simp [World.cell?,hh],by simp [World.cell?,hh],by simp [World.cell?,hh],by simp [World.cell?,hh],by simp [World.cell?,hh]⟩
theorem EmW.free {w:World} {eb:Nat} {mi mr:Value} {m:Em} {v0 v1:Value} (h:EmW w eb mi mr m v0 v1) (i:Nat):w.frozen? ⟨eb,i,none⟩=false:=Lib.frozen_of_heap h.heap i
theorem ziX (op:Int) (w:World) (hr:(1≤op∧op≤22∧op≠3)∨op=30∨op=31∨op=32):Calls Tryz.prog 51 #[.int .i64 op] w (zdI (opnP op) w):=by
  have hop:op=1∨op=2∨op=4∨op=5∨op=6∨op=7∨op=8∨op=9∨op=10∨op=11∨op=12∨op=13∨op=14∨op=15∨op=16∨op=17∨op=18∨op=19∨op=20∨op=21∨op=22∨op=30∨op=31∨op=32:=by omega
  clear hr
  rcases hop with rfl | rfl | rfl | rfl | rfl | rfl | rfl | rfl | rfl | rfl | rfl | rfl | rfl | rfl | rfl | rfl | rfl | rfl | rfl | rfl | rfl | rfl | rfl | rfl
  all_goals
    go_enter Tryz.func51,Tryz.ntmps51;go_wp2;go_ret
    exact ⟨rfl,rfl⟩
theorem zeW (op:Int) (w:World):Calls Tryz.prog 50 #[.int .i64 op] w (zex (zaG op) w):=by
  by_cases h1:op<17
  · have HK:=Hi (show zaG op=false by unfold zaG;simp;omega)
    have d1:¬ 17≤op:=by omega
    clear h1
    go_enter Tryz.func50,Tryz.ntmps50
    go_wp2
    go_ret
    exact ⟨zae HK.out.symm,rfl⟩
  have d1:17≤op:=by omega
  by_cases h2:op≤22
  · have HK:=Hi (show zaG op=true by unfold zaG;simp;omega)
    clear h1
    go_enter Tryz.func50,Tryz.ntmps50
    go_wp2
    go_ret
    exact ⟨zae HK.out.symm,rfl⟩
  · have HK:=Hi (show zaG op=false by unfold zaG;simp;omega)
    clear h1
    go_enter Tryz.func50,Tryz.ntmps50
    go_wp2
    go_ret
    exact ⟨zae HK.out.symm,rfl⟩
theorem EmW.set4 {w:World} {eb:Nat} {mi mr:Value} {m:Em} {v0 v1:Value} (h:EmW w eb mi mr m v0 v1) (z:Int) (h1 : -(3*(m.code.length:Int))≤z) (h2:z≤m.code.length):EmW (w.setCell ⟨eb,4,none⟩ (.int .i64 z)) eb mi mr ⟨m.code,m.cells,z,m.most⟩ v0 v1:=
  ⟨by have:=heap_setCell_same w eb 4 _ _ (.int .i64 z) h.heap;rw [this];rfl,zam h.code (fun g e hg=>(zaf w eb 4 _).block g hg (fun q=>by injection q;have:=(h.code.lt g e).1;omega)),zam h.cells (fun g e hg=>(zaf w eb 4 _).block g hg (fun q=>by injection q;have:=(h.cells.lt g e).1;omega)),h.apart,h1,h2,h.most,h.few⟩
theorem EmW.set5 {w:World} {eb:Nat} {mi mr:Value} {m:Em} {v0 v1:Value} (h:EmW w eb mi mr m v0 v1) (z:Int) (h1:0≤z) (h2:z≤m.code.length):EmW (w.setCell ⟨eb,5,none⟩ (.int .i64 z)) eb mi mr ⟨m.code,m.cells,m.height,z⟩ v0 v1:=
  ⟨by have:=heap_setCell_same w eb 5 _ _ (.int .i64 z) h.heap;rw [this];rfl,zam h.code (fun g e hg=>(zaf w eb 5 _).block g hg (fun q=>by injection q;have:=(h.code.lt g e).1;omega)),zam h.cells (fun g e hg=>(zaf w eb 5 _).block g hg (fun q=>by injection q;have:=(h.cells.lt g e).1;omega)),h.apart,h.low,h.high,⟨h1,h2⟩,h.few⟩
theorem EmK.set {w w':World} {eb:Nat} {v0 v1:Value} (h:EmK w eb v0 v1 w') (i:Nat) (v:Value):EmK w eb v0 v1 (w'.setCell ⟨eb,i,none⟩ v):=
  have g:=zaf w' eb i v
  ⟨g.os.trans h.os,g.tape.trans h.tape,g.output.trans h.output,Nat.le_trans h.size g.size,fun b hb hn h0 h1=>(g.block b (Nat.lt_of_lt_of_le hb h.size) (fun q=>hn (by injection q))).trans (h.block b hb hn h0 h1)⟩
theorem EmK.drew {w w':World} {eb:Nat} {v0 v1:Value} (h:EmK w eb v0 v1 w'):EmK w eb v0 v1 w'.drew:=h.below (zad (Below.refl _ _))
theorem EmW.drew {w:World} {eb:Nat} {mi mr:Value} {m:Em} {v0 v1:Value} (h:EmW w eb mi mr m v0 v1):EmW w.drew eb mi mr m v0 v1:=h.below (zad (Below.refl _ _))
def RetEm (eb:Nat) (mi mr:Value) (m:Em) (w:World) (v0 v1:Value) (e:Ending) (w':World):Prop:=
  e = .returned (.tuple #[])∧∃ v0' v1',EmW w' eb mi mr m v0' v1'∧EmK w eb v0 v1 w'∧Fresh w v0 v0'∧Fresh w v1 v1'
theorem EmW.push {w w6:World} {eb:Nat} {mi mr:Value} {m:Em} {v0 v1 v6:Value} (h:EmW w eb mi mr m v0 v1) (i:Ins) (ho:w6.ownsRow (eb+1) 76 2 v6 (m.code.length+1) (m.code.flatMap insC++insC i)) (o:Obj) (hg:(w.alloc o).grownBy w6 v0.ownBlock) (hv:v6.ownBlock=v0.ownBlock∨v6.ownBlock=some (w.alloc o).heap.size) :
    EmW (w6.setCell ⟨eb,0,none⟩ v6) eb mi mr ⟨m.code++[i],m.cells,m.height,m.most⟩ v6 v1∧EmK w eb v0 v1 (w6.setCell ⟨eb,0,none⟩ v6)∧Fresh w v0 v6:=by
  have hlt:=h.lt;have hs:=hg.size;rw [World.size_alloc] at hs;have hne:some eb≠v0.ownBlock:=fun q=>by have:=(h.code.lt eb q.symm).1;omega
  have hh:w6.heap[eb]? = some (.cells #[v0,v1,mi,mr,.int .i64 m.height,.int .i64 m.most] 70 (0,0)):=(hg.block eb (by rw [World.size_alloc];omega) hne).trans ((Lib.alloc_old w o eb hlt).trans h.heap)
  have hfr:Fresh w v0 v6:=by
    rcases hv with e | e
    · exact .inl e
    · exact .inr ⟨_,e,by rw [World.size_alloc];omega⟩
  refine ⟨⟨by have:=heap_setCell_same w6 eb 0 _ _ v6 hh;rw [this];rfl,?_,?_,fun g hg6 => ?_,?_,?_,?_,?_⟩,?_,hfr⟩
  · have h2:=zam ho (w':=w6.setCell ⟨eb,0,none⟩ v6) (fun g e hgs=>(zaf w6 eb 0 _).block g hgs (fun q=>by injection q;have:=(ho.lt g e).1;omega))
    simpa using h2
  · refine zam (zam (h.cells.alloc o) (w':=w6) (fun g e hgs=>hg.block g hgs (fun q=>h.apart g q.symm e))) (fun g e hgs=>(zaf w6 eb 0 _).block g hgs (fun q=>by injection q;have:=(h.cells.lt g e).1;omega))
  · rcases hv with e | e
    · exact h.apart g (e.symm.trans hg6)
    · rw [e] at hg6
      injection hg6 with hg6
      rw [World.size_alloc] at hg6
      intro q
      have:=(h.cells.lt g q).2
      omega
  · have:=h.low
    simp only [List.length_append,List.length_singleton]
    omega
  · have:=h.high
    simp only [List.length_append,List.length_singleton]
    omega
  · have:=h.most
    simp only [List.length_append,List.length_singleton]
    omega
  · have:=h.few
    simp only [List.length_append,List.length_singleton]
    omega
  · have k1:EmK w eb v0 v1 w6:=⟨hg.os,hg.tape,hg.output,by omega,fun b hb hn h0 h1=>(hg.block b (by rw [World.size_alloc];omega) (fun q=>h0 q.symm)).trans (Lib.alloc_old w o b hb)⟩
    exact k1.set 0 v6
theorem zij {w:World} {eb:Nat} {mi mr:Value} {m:Em} {v0 v1:Value} (op a:Int) (hr:(1≤op∧op≤22∧op≠3)∨op=30∨op=31∨op=32) (h:EmW w eb mi mr m v0 v1) (hl:m.code.length≤100000) :
    Calls Tryz.prog 25 #[.pointer (some ⟨eb,0,none⟩),.int .i64 op,.int .i64 a] w (RetEm eb mi mr (addE m op a) w v0 v1):=by
  obtain ⟨A0,c0,rfl,-,-⟩:=zag h.code;obtain ⟨p0,p1,p2,p3,p4,p5⟩:=h.six;have f0:=h.free 0;have hlt:=h.lt;have hrange:=hr;have HO:=Hi (fun W=>ziX op W hr)
  have hon:0≤opnP op∧opnP op≤3:=by
    have hop:op=1∨op=2∨op=4∨op=5∨op=6∨op=7∨op=8∨op=9∨op=10∨op=11∨op=12∨op=13∨op=14∨op=15∨op=16∨op=17∨op=18∨op=19∨op=20∨op=21∨op=22∨op=30∨op=31∨op=32:=by omega
    rcases hop with rfl | rfl | rfl | rfl | rfl | rfl | rfl | rfl | rfl | rfl | rfl | rfl | rfl | rfl | rfl | rfl | rfl | rfl | rfl | rfl | rfl | rfl | rfl | rfl <;> decide
  obtain ⟨ti,hti,hzi⟩:=Option.map_eq_some_iff.1 zgs;obtain ⟨hz0,hz1,hz2⟩:ti.zero=some (.agg #[.int .i64 0,.int .i64 0])∧ti.size=2∧ti.bytes=16:=by simpa using hzi
  have HTI:=Hi (And.intro hti (And.intro hz0 (And.intro hz1 hz2)));have HE:=Hi h;have HOW:=Hi (h.code.alloc (Obj.cells #[.int .i64 op,.int .i64 a] 76));have HSR:=Hi (zaL w [.int .i64 op,.int .i64 a] 76 2 1 rfl);have HM1:=Hi (show m.code.length+1≤maxLen by unfold maxLen;omega);have HM2:=Hi (show (m.code.length+1)*16≤140737488355328 by omega);have HBS:=Hi (show eb+1≤(w.alloc (Obj.cells #[.int .i64 op,.int .i64 a] 76)).heap.size by rw [World.size_alloc];omega);have low:=h.low;have high:=h.high;have most:=h.most;have HRES:=Hi (show addE m op a=⟨m.code++[⟨op,a⟩],m.cells,m.height-opnP op+(if op=32 then 0 else 1),max m.most (m.height-opnP op+(if op=32 then 0 else 1))⟩ from rfl);have hns:some eb≠(Value.slice A0 m.code.length c0).ownBlock:=fun q=>by have:=(h.code.lt eb q.symm).1;omega
  have HNS:=Hi hns;generalize opnP op=on at *;clear hti hzi hz0 hz1 hz2 hr h hns;go_enter Tryz.func25,Tryz.ntmps25;go_upto_region 1 with (at_builtin;refine zaj (o:=⟨some 15,_,_,_,_,_⟩) (w:=w.alloc (Obj.cells #[.int .i64 op,.int .i64 a] 76)) _ _ 33 rfl rfl Tryz.underlying33 HTI.out.1 HTI.out.2.1 HTI.out.2.2.1 HTI.out.2.2.2 rfl (by decide) rfl HOW.out rfl HSR.out (zcr ⟨op,a⟩) HM1.out HM2.out HBS.out ?_;intro v6 w6 hown6 hg6 hv6;have hg6':(w.alloc (Obj.cells #[.int .i64 op,.int .i64 a] 76)).grownBy w6 (Value.slice A0 m.code.length c0).ownBlock:=hg6;have hh6:w6.heap[eb]? = some (.cells #[Value.slice A0 m.code.length c0,v1,mi,mr,.int .i64 m.height,.int .i64 m.most] 70 (0,0)):=(hg6'.block eb (by rw [World.size_alloc];omega) HNS.out).trans ((Lib.alloc_old w _ eb hlt).trans HE.out.heap);have c6:w6.cell? ⟨eb,0,none⟩=some (Value.slice A0 m.code.length c0):=(by simp [World.cell?,hh6]);have f6:w6.frozen? ⟨eb,0,none⟩=false:=Lib.frozen_of_heap hh6 0;have h6l:=(Array.getElem?_eq_some_iff.1 hh6).1;have HP:=Hi (HE.out.push ⟨op,a⟩ hown6 (Obj.cells #[.int .i64 op,.int .i64 a] 76) hg6' hv6);obtain ⟨A6,k6,hv6e,-,-⟩:=zag hown6;clear hg6 hg6' hh6 hv6 hown6;subst hv6e)
  obtain ⟨hw6,hk6,hf6⟩:=HP.out;obtain ⟨W6,hW6⟩:∃ W,w6.setCell ⟨eb,0,none⟩ (.slice A6 (m.code.length+1) k6)=W:=⟨_,rfl⟩;rw [hW6] at hw6 hk6 ⊢;clear hW6 p0 p1 p2 p3 p4 p5 f0 c6 f6 HP h6l;obtain ⟨p0,p1,p2,p3,p4,p5⟩:=hw6.six;have f4:=hw6.free 4;have hlt6:=hw6.lt;have HW6:=Hi hw6;have HK6:=Hi hk6;have HF6:=Hi hf6;clear hw6 hk6 hf6 HOW HSR HBS HM1 HM2 HNS HE
  go_region_law ((go_simp;go_at_call 51;refine (HO.out _).mono ?_;rintro e' w7 ⟨rfl,rfl⟩))
  all_goals
    go_upto_region 2 with fail
    have hwr:IntKind.i64.wrap (m.height-on)=m.height-on:=IntWalk.i64_in _ ⟨by omega,by omega⟩;rw [hwr];clear hwr;obtain ⟨W7,hW7⟩:∃ W,(W6.setCell ⟨eb,4,none⟩ (.int .i64 (m.height-on))).drew=W:=⟨_,rfl⟩;have hw7:EmW (W6.setCell ⟨eb,4,none⟩ (.int .i64 (m.height-on))).drew eb mi mr ⟨m.code++[⟨op,a⟩],m.cells,m.height-on,m.most⟩ (.slice A6 (m.code.length+1) k6) v1:=(HW6.out.set4 (m.height-on) (by simp only [List.length_append,List.length_singleton];omega) (by simp only [List.length_append,List.length_singleton];omega)).drew;have hk7:=(HK6.out.set 4 (.int .i64 (m.height-on))).drew;rw [hW7] at hw7 hk7 ⊢;clear hW7 p0 p1 p2 p3 p4 p5 f4;obtain ⟨p0,p1,p2,p3,p4,p5⟩:=hw7.six;dsimp only at p4 p5;have f4:=hw7.free 4;have f5:=hw7.free 5;have hlt7:=hw7.lt;have HW7:=Hi hw7;have HK7:=Hi hk7;clear hw7 hk7 HW6 HK6
    by_cases h32:op=32
    · have HRE:=Hi (show addE m op a=⟨m.code++[⟨op,a⟩],m.cells,m.height-on,max m.most (m.height-on)⟩ by rw [HRES.out,if_pos h32];simp)
      clear HRES
      go_upto_region 4 with fail
      obtain ⟨mm,hmm⟩:∃ mm,max m.most (m.height-on)=mm:=⟨_,rfl⟩
      go_region
      go_end0
      subst hmm
      have hw9:=(HW7.out.set5 (max m.most (m.height-on)) (by omega) (by simp only [List.length_append,List.length_singleton];omega)).drew
      rw [HRE.out]
      have hmx:(if m.most<m.height-on then m.height-on else m.most)=max m.most (m.height-on):=by split <;> omega
      try rw [hmx]
      exact ⟨rfl,_,_,hw9,(HK7.out.set 5 _).drew,HF6.out,Fresh.refl _ _⟩
    · have HRE:=Hi (show addE m op a=⟨m.code++[⟨op,a⟩],m.cells,m.height-on+1,max m.most (m.height-on+1)⟩ by rw [HRES.out,if_neg h32])
      clear HRES
      go_upto_region 4 with fail
      obtain ⟨W8,hW8⟩:∃ W,W7.setCell ⟨eb,4,none⟩ (.int .i64 (m.height-on+1))=W:=⟨_,rfl⟩
      have hw8:EmW (W7.setCell ⟨eb,4,none⟩ (.int .i64 (m.height-on+1))) eb mi mr ⟨m.code++[⟨op,a⟩],m.cells,m.height-on+1,m.most⟩ (.slice A6 (m.code.length+1) k6) v1:=HW7.out.set4 (m.height-on+1) (by simp only [List.length_append,List.length_singleton];omega) (by simp only [List.length_append,List.length_singleton];omega)
      have hk8:=HK7.out.set 4 (.int .i64 (m.height-on+1))
      rw [hW8] at hw8 hk8 ⊢
      clear hW8 p0 p1 p2 p3 p4 p5 f4 f5
      obtain ⟨p0,p1,p2,p3,p4,p5⟩:=hw8.six
      dsimp only at p4 p5
      have f4:=hw8.free 4
      have f5:=hw8.free 5
      have hlt8:=hw8.lt
      have HW8:=Hi hw8
      have HK8:=Hi hk8
      clear hw8 hk8 HW7 HK7
      obtain ⟨mm,hmm⟩:∃ mm,max m.most (m.height-on+1)=mm:=⟨_,rfl⟩
      go_region
      go_end0
      subst hmm
      have hw9:=(HW8.out.set5 (max m.most (m.height-on+1)) (by omega) (by simp only [List.length_append,List.length_singleton];omega)).drew
      rw [HRE.out]
      have hmx:(if m.most<m.height-on+1 then m.height-on+1 else m.most)=max m.most (m.height-on+1):=by split <;> omega
      try rw [hmx]
      exact ⟨rfl,_,_,hw9,(HK8.out.set 5 _).drew,HF6.out,Fresh.refl _ _⟩
end Go.Proofs.YtcikenlflcofbaaGreatDoor
namespace Go.Proofs.YtcikenlflcofbaaGreatDoor
open Go.RowKit
def NmC (_:World) (_:Nat→Prop) (cs:List Value) (s:List UInt8):Prop:=cs=[.string ⟨s.toArray⟩]∧s.length≤maxLen
theorem NmC.mono:zdH NmC:=fun _ _ _ _ _ _ _ _ h=>h
def InC (_:World) (_:Nat→Prop) (cs:List Value) (i:Ins):Prop:=cs=insC i
theorem InC.mono:zdH InC:=fun _ _ _ _ _ _ _ _ h=>h
def CeC (_:World) (_:Nat→Prop) (cs:List Value) (c:Cl):Prop:=cs=clC c
theorem CeC.mono:zdH CeC:=fun _ _ _ _ _ _ _ _ h=>h
theorem nmAt {w:World} {S:Nat→Prop} {A:Option Addr} {n:Nat} {l:List (List UInt8)} (h:Rw NmC 1 w S A n l) {k:Nat} (hk:k<n) :
    ∃ b o s,A=some ⟨b,o,none⟩∧S b∧l[k]? = some s∧s.length≤maxLen∧w.cell? ⟨b,o+k,none⟩=some (.string ⟨s.toArray⟩):=by
  obtain ⟨b,o,cs,s,e,hb,hx,_,⟨rfl,h1⟩,hat⟩:=h.at_ hk;exact ⟨b,o,s,e,hb,hx,h1,by simpa using hat 0 _ rfl⟩
theorem inAt {w:World} {S:Nat→Prop} {A:Option Addr} {n:Nat} {l:List Ins} (h:Rw InC 2 w S A n l) {k:Nat} (hk:k<n) :
    ∃ b o i,A=some ⟨b,o,none⟩∧S b∧l[k]? = some i∧w.cell? ⟨b,o+k*2,none⟩=some (.int .i64 i.op)∧w.cell? ⟨b,o+k*2+1,none⟩=some (.int .i64 i.a):=by
  obtain ⟨b,o,cs,i,e,hb,hx,_,rfl,hat⟩:=h.at_ hk;exact ⟨b,o,i,e,hb,hx,by simpa using hat 0 _ rfl,hat 1 _ rfl⟩
theorem ceAt {w:World} {S:Nat→Prop} {A:Option Addr} {n:Nat} {l:List Cl} (h:Rw CeC 2 w S A n l) {k:Nat} (hk:k<n) :
    ∃ b o i,A=some ⟨b,o,none⟩∧S b∧l[k]? = some i∧w.cell? ⟨b,o+k*2,none⟩=some (.int .i64 i.op)∧w.cell? ⟨b,o+k*2+1,none⟩=some (.int .i64 i.n):=by
  obtain ⟨b,o,cs,i,e,hb,hx,_,rfl,hat⟩:=h.at_ hk;exact ⟨b,o,i,e,hb,hx,by simpa using hat 0 _ rfl,hat 1 _ rfl⟩
structure Pl where
  A1:Option Addr
  c1:Nat
  A2:Option Addr
  c2:Nat
  A3:Option Addr
  c3:Nat
  A4:Option Addr
  c4:Nat
abbrev pgC (p:Pg) (l:Pl):Array Value := #[.slice l.A1 p.ins.length l.c1,.slice l.A2 p.rls.length l.c2,.slice l.A3 p.cells.length l.c3,.slice l.A4 p.code.length l.c4]
abbrev pgV (p:Pg) (l:Pl):Value := .agg (pgC p l)
structure PgI (w:World) (S:Nat→Prop) (p:Pg) (l:Pl):Prop where
  h1:p.ins.length≤l.c1
  m1:l.c1≤maxLen
  r1:Rw SgC 2 w S l.A1 p.ins.length p.ins
  h2:p.rls.length≤l.c2
  m2:l.c2≤maxLen
  r2:Rw NmC 1 w S l.A2 p.rls.length p.rls
  h3:p.cells.length≤l.c3
  m3:l.c3≤maxLen
  r3:Rw CeC 2 w S l.A3 p.cells.length p.cells
  h4:p.code.length≤l.c4
  m4:l.c4≤maxLen
  r4:Rw InC 2 w S l.A4 p.code.length p.code
theorem PgI.mono {w w':World} {S S':Nat→Prop} {p:Pg} {l:Pl} (h:PgI w S p l) (hS:∀ b,S b→S' b) (hk:KeepOn S w w'):PgI w' S' p l:=
  ⟨h.h1,h.m1,h.r1.mono SgC.mono hS hk,h.h2,h.m2,h.r2.mono NmC.mono hS hk,h.h3,h.m3,h.r3.mono CeC.mono hS hk,h.h4,h.m4,h.r4.mono InC.mono hS hk⟩
def Old (w:World) (b:Nat):Prop:=b<w.heap.size
theorem PgI.below {w w':World} {p:Pg} {l:Pl} (h:PgI w (Old w) p l) (hb:Below w.heap.size w w'):PgI w' (Old w') p l:=
  h.mono (fun _ q=>Nat.lt_of_lt_of_le q hb.size) (zab hb fun _ q=>q)
def zlB:Pg:=⟨[],[],[],[]⟩
def plNil:Pl:=⟨Option.none,0,Option.none,0,Option.none,0,Option.none,0⟩
theorem PgI.nil (w:World) (S:Nat→Prop):PgI w S zlB plNil:=⟨Nat.le_refl _,Nat.zero_le _,Rw.nil,Nat.le_refl _,Nat.zero_le _,Rw.nil,Nat.le_refl _,Nat.zero_le _,Rw.nil,Nat.le_refl _,Nat.zero_le _,Rw.nil⟩
def cmpP (rs:List Rl) (ins:List Sg):Pg × Int × Int:=
  if (zcm rs ins).2.2=0 then (⟨ins,rs.map (·.nm),(zcm rs ins).1.2,(zcm rs ins).1.1⟩,(zcm rs ins).2) else (zlB,(zcm rs ins).2)
def RetCmp (rs:List Rl) (ins:List Sg) (w:World) (e:Ending) (w':World):Prop:=
  ∃ l,e = .returned (.tuple #[pgV (cmpP rs ins).1 l,.int .i64 (cmpP rs ins).2.1,.int .i64 (cmpP rs ins).2.2])∧PgI w' (New w w') (cmpP rs ins).1 l∧Below w.heap.size w w'
theorem RetCmp.none {rs:List Rl} {ins:List Sg} {w w':World} {a er:Int} (h:(zcm rs ins).2=(a,er)) (he:er≠0) (hb:Below w.heap.size w w') :
    RetCmp rs ins w (.returned (.tuple #[.agg #[.slice Option.none 0 0,.slice Option.none 0 0,.slice Option.none 0 0,.slice Option.none 0 0],.int .i64 a,.int .i64 er])) w':=by
  have hc:cmpP rs ins=(zlB,a,er):=by unfold cmpP;rw [h,if_neg he]
  refine ⟨plNil,?_,?_,hb⟩
  · rw [hc];rfl
  · rw [hc];exact PgI.nil _ _
end Go.Proofs.YtcikenlflcofbaaGreatDoor
