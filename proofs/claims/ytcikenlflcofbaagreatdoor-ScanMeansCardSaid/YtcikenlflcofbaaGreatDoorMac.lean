/-
  The machine of scans: its stack, and what its operations leave.
-/
import Derived.Test.YtcikenlflcofbaaGreatDoorExQ
import Derived.Test.YtcikenlflcofbaaGreatDoorP2
set_option maxRecDepth 100000
set_option maxHeartbeats 8000000
namespace Go.Proofs.YtcikenlflcofbaaGreatDoor
open Go.RowKit
theorem own_tk {w:World} {base n c:Nat} {e:TypeId} {A:Option Addr} {xs:List Value} (h:w.ownsRow base e 1 (.slice A n c) n xs) {r:Nat} (hr:r≤n):w.ownsRow base e 1 (.slice A r c) r (xs.take r):=by
  refine ⟨by rw [List.length_take];have:=h.1;omega,?_⟩
  rcases h.2 with ⟨h1,h2⟩ | ⟨g,cap,cur,h1,h2,h3,h4,h5,h6,h7⟩
  · injection h1 with q1 q2 q3
    subst q1
    subst q3
    obtain rfl:r=0:=by omega
    exact .inl ⟨rfl,rfl⟩
  · injection h1 with q1 q2 q3
    subst q1
    subst q3
    refine .inr ⟨g,c,cur,rfl,h2,h3,by omega,h5,h6,?_⟩
    rw [← h7,List.take_take]
    congr 1
    omega
structure MaW (w:World) (mb base:Nat) (st:List Int) (sv:Value):Prop where
  heap:w.heap[mb]? = some (.cells #[sv] 109 (0,0))
  st:w.ownsRow base 3 1 sv st.length (st.map (Value.int .i64))
  ne:sv.ownBlock≠some mb
  lo:base≤mb
theorem MaW.lt {w:World} {mb base:Nat} {st:List Int} {sv:Value} (h:MaW w mb base st sv):mb<w.heap.size:=(Array.getElem?_eq_some_iff.1 h.heap).1
theorem MaW.keep {w w':World} {mb base:Nat} {st:List Int} {sv:Value} (h:MaW w mb base st sv) (hk:∀ b,b=mb∨sv.ownBlock=some b→w'.heap[b]? = w.heap[b]?):MaW w' mb base st sv:=
  ⟨(hk mb (.inl rfl)).trans h.heap,zam h.st (fun g e _=>hk g (.inr e)),h.ne,h.lo⟩
theorem MaW.below {w w':World} {mb base:Nat} {st:List Int} {sv:Value} (h:MaW w mb base st sv) (k:Below w.heap.size w w'):MaW w' mb base st sv:=
  h.keep fun b hb=>by
    rcases hb with rfl | e
    · exact k.block _ h.lt
    · exact k.block _ (h.st.lt b e).2
theorem MaW.drew {w:World} {mb base:Nat} {st:List Int} {sv:Value} (h:MaW w mb base st sv):MaW w.drew mb base st sv:=h.below (zad (Below.refl _ _))
theorem MaW.cell {w:World} {mb base:Nat} {st:List Int} {sv:Value} (h:MaW w mb base st sv):w.cell? ⟨mb,0,none⟩=some sv:=by
  have hh:=h.heap;simp [World.cell?,hh]
def MaS (mb:Nat) (sv:Value) (b:Nat):Prop:=b=mb∨sv.ownBlock=some b
def RetMa (mb base:Nat) (st':List Int) (w:World) (sv:Value) (e:Ending) (w':World):Prop:=
  e = .returned (.tuple #[])∧∃ sv',MaW w' mb base st' sv'∧KB (MaS mb sv) w w'∧Fresh w sv sv'
def za5 (mb base:Nat) (x:Int) (st:List Int) (w:World) (sv:Value) (e:Ending) (w':World):Prop:=
  e = .returned (.int .i64 x)∧∃ sv',MaW w' mb base st sv'∧KB (MaS mb sv) w w'∧sv'.ownBlock=sv.ownBlock∧w'.heap.size=w.heap.size
theorem MaW.set {w:World} {mb base:Nat} {st st':List Int} {sv sv':Value} (h:MaW w mb base st sv) (ho:w.ownsRow base 3 1 sv' st'.length (st'.map (Value.int .i64))) (hv:sv'.ownBlock≠some mb):MaW (w.setCell ⟨mb,0,none⟩ sv') mb base st' sv' :=
  ⟨by have:=heap_setCell_same w mb 0 _ _ sv' h.heap;rw [this];rfl,zam ho (fun g e hg=>(zaf w mb 0 _).block g hg (fun q=>hv (by rw [e];exact q))),hv,h.lo⟩
theorem MaW.push {w w6:World} {mb base:Nat} {st:List Int} {sv v6:Value} (h:MaW w mb base st sv) (o:Obj) (x:Int) (hg:(w.alloc o).grownBy w6 sv.ownBlock) (ho:w6.ownsRow base 3 1 v6 (st.length+1) (st.map (Value.int .i64)++[.int .i64 x])) (hv:v6.ownBlock=sv.ownBlock∨v6.ownBlock=some (w.alloc o).heap.size) :
    MaW (w6.setCell ⟨mb,0,none⟩ v6) mb base (st++[x]) v6∧KB (MaS mb sv) w (w6.setCell ⟨mb,0,none⟩ v6)∧Fresh w sv v6∧w6.heap[mb]? = w.heap[mb]?:=by
  have hlt:=h.lt;have hh:w6.heap[mb]? = w.heap[mb]? := (hg.block mb (by rw [World.size_alloc];omega) (fun q=>h.ne q.symm)).trans (Lib.alloc_old w o mb hlt);have hs:=hg.size;rw [World.size_alloc] at hs
  have hne:v6.ownBlock≠some mb:=by
    rcases hv with e | e
    · rw [e];exact h.ne
    · rw [e,World.size_alloc];intro q;injection q;omega
  have h6:MaW w6 mb base st sv→MaW (w6.setCell ⟨mb,0,none⟩ v6) mb base (st++[x]) v6:=fun q=>q.set (by simpa using ho) hne
  refine ⟨⟨by have:=heap_setCell_same w6 mb 0 _ _ v6 (hh.trans h.heap);rw [this];rfl,?_,hne,h.lo⟩,?_,?_,hh⟩
  · refine zam (by simpa using ho) (fun g e hgs=>(zaf w6 mb 0 _).block g hgs (fun q=>hne (by rw [e];exact q)))
  · refine ((KB.of_below (zaa w o)).trans (KB.of_grown hg (fun b _ q => .inr q))).trans (KB.of_grown (zaf w6 mb 0 v6) (fun b _ q=>by injection q with q;exact .inl q.symm))
  · rcases hv with e | e
    · exact .inl e
    · exact .inr ⟨_,e,by rw [World.size_alloc];omega⟩
theorem zdD:(Tryz.prog.info? 3).map (fun i=>(i.zero,i.size,i.bytes))=some (some (.int .i64 0),1,8):=by kernel_rfl
theorem zaY {w:World} {mb base:Nat} {st:List Int} {sv:Value} (h:MaW w mb base st sv) (x:Int) (hs:st.length≤100000):Calls Tryz.prog 54 #[.pointer (some ⟨mb,0,none⟩),.int .i64 x] w (RetMa mb base (st++[x]) w sv):=by
  obtain ⟨A,c,rfl,hcl,hcm⟩:=zag h.st;have p0:=h.cell;have f0:=Lib.frozen_of_heap h.heap 0;have hlt:=h.lt;have hlo:=h.lo;obtain ⟨ti,hti,hzi⟩:=Option.map_eq_some_iff.1 zdD;obtain ⟨hz0,hz1,hz2⟩:ti.zero=some (.int .i64 0)∧ti.size=1∧ti.bytes=8:=by simpa using hzi
  have HTI:=Hi (And.intro hti (And.intro hz0 (And.intro hz1 hz2)));have HOW:=Hi (h.st.alloc (Obj.cells #[.int .i64 x] 3));have HSR:=Hi (zaL w [.int .i64 x] 3 1 1 rfl);have HM1:=Hi (show st.length+1≤maxLen by unfold maxLen;omega);have HM2:=Hi (show (st.length+1)*8≤140737488355328 by omega);have HBS:=Hi (show base≤(w.alloc (Obj.cells #[.int .i64 x] 3)).heap.size by rw [World.size_alloc];omega);have HH:=Hi h;clear hti hzi hz0 hz1 hz2 h;go_enter Tryz.func54,Tryz.ntmps54;go_wp2_with (at_builtin;refine zaj (o:=⟨some 11,_,_,_,_,_⟩) (w:=w.alloc (Obj.cells #[.int .i64 x] 3)) _ _ 38 rfl rfl Tryz.underlying38 HTI.out.1 HTI.out.2.1 HTI.out.2.2.1 HTI.out.2.2.2 rfl (by decide) rfl HOW.out rfl HSR.out (by intro u hu;rw [List.mem_singleton.1 hu];rfl) HM1.out HM2.out HBS.out ?_;intro v6 w6 hown6 hg6 hv6;have HP:=Hi (HH.out.push (Obj.cells #[.int .i64 x] 3) x hg6 hown6 hv6);have hh6:=HP.out.2.2.2.trans HH.out.heap;have c6:w6.cell? ⟨mb,0,none⟩=some (.slice A st.length c):=(by simp [World.cell?,hh6]);have f6:w6.frozen? ⟨mb,0,none⟩=false:=Lib.frozen_of_heap hh6 0;have h6l:=(Array.getElem?_eq_some_iff.1 hh6).1;obtain ⟨A6,k6,hv6e,-,-⟩:=zag hown6;clear hg6 hh6 hv6 hown6;subst hv6e)
  go_end0
  exact ⟨rfl,_,HP.out.1,HP.out.2.1,HP.out.2.2.1⟩
theorem zaF {w:World} {mb base:Nat} {st:List Int} {x:Int} {sv:Value} (h:MaW w mb base (st++[x]) sv) (hs:st.length≤100000):Calls Tryz.prog 56 #[.pointer (some ⟨mb,0,none⟩)] w (za5 mb base x st w sv):=by
  have hl:(st++[x]).length=st.length+1:=by simp
  have hst:=h.st;rw [hl] at hst;obtain ⟨g,c,rfl,hlo,hlt⟩:=hst.form (by omega);have p0:=h.cell;have f0:=Lib.frozen_of_heap h.heap 0;have hmlt:=h.lt
  have hcl:st.length+1≤c∧c≤maxLen:=by
    obtain ⟨_,_,e1,l1,m1⟩:=zag hst;injection e1 with _ _ e1
    subst e1;exact ⟨l1,m1⟩
  obtain ⟨hc1,hc2⟩:=hcl;unfold maxLen at hc2
  have hx:w.cell? ⟨g,st.length,none⟩=some (.int .i64 x):=by
    rw [hst.cellAt st.length (by omega)];simp
  have hot:w.ownsRow base 3 1 (.slice (some ⟨g,0,none⟩) st.length c) st.length (st.map (Value.int .i64)):=by
    have:=own_tk hst (r:=st.length) (by omega);simpa using this
  have hne:(Value.slice (some ⟨g,0,none⟩) st.length c).ownBlock≠some mb:=h.ne;have HS:=Hi (h.set hot hne);have HK:=Hi (KB.of_grown (S:=MaS mb (.slice (some ⟨g,0,none⟩) (st.length+1) c)) (zaf w mb 0 (.slice (some ⟨g,0,none⟩) st.length c)) (fun b _ q=>by injection q with q;exact .inl q.symm));have hi1:((st.length+1:Nat):Int)-1=(st.length:Int):=by omega
  have hi2:((st.length:Int)+1)-1=(st.length:Int):=by omega
  clear hst hot hne h hl;go_enter Tryz.func56,Tryz.ntmps56;go_wp2;go_ret
  exact ⟨rfl,_,HS.out,HK.out,rfl,by simp⟩
theorem zd7 (v:Int) (w:World):Calls Tryz.prog 55 #[.int .i64 v] w (zdI (limP v) w):=by
  have HE:=Hi (show limP v=max (-1000000000) (min v 1000000000) from rfl);go_enter Tryz.func55,Tryz.ntmps55;go_wp2;go_ret
  exact ⟨zbs HE.out.symm,rfl⟩
theorem zaU (b:Bool) (w:World):Calls Tryz.prog 81 #[.bool b] w (zdI (bitP b) w):=by
  cases b
  all_goals
    go_enter Tryz.func81,Tryz.ntmps81;go_wp2;go_ret
    exact ⟨rfl,rfl⟩
end Go.Proofs.YtcikenlflcofbaaGreatDoor
