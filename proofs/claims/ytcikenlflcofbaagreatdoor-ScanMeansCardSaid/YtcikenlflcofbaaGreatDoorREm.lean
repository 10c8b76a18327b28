/-
  The reference's emit: how many cells and instructions it adds.
-/
import Derived.Test.YtcikenlflcofbaaGreatDoorR28
import Derived.Test.YtcikenlflcofbaaGreatDoorKR27
import Derived.Deep.RegionHeld3
set_option maxRecDepth 100000
set_option maxHeartbeats 8000000
namespace Go.Proofs.YtcikenlflcofbaaGreatDoor
open Go.RowKit
def cntL (f:Ex→Nat × Nat):List Ex→Nat × Nat
  | []=>(0,0)
  | x::xs=>((f x).1+(cntL f xs).1,(f x).2+(cntL f xs).2)
def cntG:Nat→Ex→Nat × Nat
  | 0,_=>(0,0)
  | d+1,.mk op _ _ ks=>((cntL (cntG d) ks).1+1,(cntL (cntG d) ks).2+if zaG op then 1 else 0)
theorem ziw (ins rls:List (List UInt8)) (op n:Int) (nm:List UInt8) (m:Em):(za8 ins rls op n nm m).cells.length=m.cells.length+if zaG op then 1 else 0:=by
  unfold za8
  by_cases h3:op=3
  · rw [if_pos h3]
    have hk:zaG op=false:=by rw [h3];rfl
    rw [hk]
    cases zbl ins nm <;> rfl
  rw [if_neg h3]
  by_cases h12:op=1∨op=2
  · rw [if_pos h12]
    have hk:zaG op=false:=by rcases h12 with e | e <;> rw [e] <;> rfl
    rw [hk]
    rfl
  rw [if_neg h12]
  cases zaG op
  · rfl
  · simp
theorem zgU {f:Em→Ex→Em} {g:Ex→Nat × Nat} (h:∀ m x,(f m x).code.length=m.code.length+(g x).1∧(f m x).cells.length=m.cells.length+(g x).2) :
    ∀ (ks:List Ex) (m:Em),(ks.foldl f m).code.length=m.code.length+(cntL g ks).1∧(ks.foldl f m).cells.length=m.cells.length+(cntL g ks).2
  | [],m=>⟨rfl,rfl⟩
  | x::ks,m=>by
    obtain ⟨h1,h2⟩:=h m x;obtain ⟨h3,h4⟩:=zgU h ks (f m x);rw [List.foldl_cons,h3,h4,h1,h2];exact ⟨Nat.add_assoc _ _ _,Nat.add_assoc _ _ _⟩
theorem zgT (ins rls:List (List UInt8)):∀ (d:Nat) (m:Em) (x:Ex),(zat ins rls d x m).code.length=m.code.length+(cntG d x).1∧(zat ins rls d x m).cells.length=m.cells.length+(cntG d x).2
  | 0,_,_=>⟨rfl,rfl⟩
  | d+1,m,.mk op n nm ks=>by
    obtain ⟨h1,h2⟩:=zgU (f:=fun m k=>zat ins rls d k m) (fun m x=>zgT ins rls d m x) ks m;have e:zat ins rls (d+1) (.mk op n nm ks) m=za8 ins rls op n nm (ks.foldl (fun m k=>zat ins rls d k m) m):=rfl;rw [e,zdR,ziw,h1,h2];exact ⟨Nat.add_assoc _ _ _,Nat.add_assoc _ _ _⟩
theorem zjD (w:World) (o1 o2 o3:Obj):(((w.alloc o1).alloc o2).alloc o3).heap[w.heap.size]? = some o1∧(((w.alloc o1).alloc o2).alloc o3).heap[w.heap.size+1]? = some o2∧(((w.alloc o1).alloc o2).alloc o3).heap[w.heap.size+2]? = some o3 ∧
    (((w.alloc o1).alloc o2).alloc o3).heap.size=w.heap.size+3∧Below w.heap.size w (((w.alloc o1).alloc o2).alloc o3):=by
  obtain ⟨h1,h2,h3,h4⟩:=zic w o1 o2 o3;exact ⟨h1,h2,h3,by simp only [World.size_alloc],⟨h4.os,rfl,h4.output,h4.size,h4.block⟩⟩
theorem zaS {W:World} {g:Nat} {a b c d:Value} {t:TypeId} (h:W.heap[g]? = some (.cells #[a,b,c,d] t (0,0))):W.cell? ⟨g,0,none⟩=some a∧W.cell? ⟨g,1,none⟩=some b∧W.cell? ⟨g,2,none⟩=some c∧W.cell? ⟨g,3,none⟩=some d:=
  ⟨by simp [World.cell?,h],by simp [World.cell?,h],by simp [World.cell?,h],by simp [World.cell?,h]⟩
theorem zbf {w1:World} {bb:Nat} {a b c d:Value} {t:TypeId} (h:w1.heap[bb]? = some (.cells #[a,b,c,d] t (0,0))) (x y z u:Value) :
    ((((w1.setCell ⟨bb,0,none⟩ x).setCell ⟨bb,1,none⟩ y).setCell ⟨bb,2,none⟩ z).setCell ⟨bb,3,none⟩ u).heap[bb]? = some (.cells #[x,y,z,u] t (0,0)):=by
  have h1:=heap_setCell_same w1 bb 0 _ _ x h;have h2:=heap_setCell_same (w1.setCell ⟨bb,0,none⟩ x) bb 1 _ _ y h1;have h3:=heap_setCell_same ((w1.setCell ⟨bb,0,none⟩ x).setCell ⟨bb,1,none⟩ y) bb 2 _ _ z h2;have h4:=heap_setCell_same (((w1.setCell ⟨bb,0,none⟩ x).setCell ⟨bb,1,none⟩ y).setCell ⟨bb,2,none⟩ z) bb 3 _ _ u h3;rw [h4]
  rfl
theorem zbV {S:Nat→Prop} {w w':World} (h:KB S w w') (b i:Nat) (v:Value) (hb:b<w'.heap.size→S b):KB S w (w'.setCell ⟨b,i,none⟩ v):=
  h.trans (KB.of_grown (zaf w' b i v) (fun g hg e=>by injection e with e;subst e;exact hb hg))
theorem zch (w:World) (b:Nat) (x y z u:Value):((((w.setCell ⟨b,0,none⟩ x).setCell ⟨b,1,none⟩ y).setCell ⟨b,2,none⟩ z).setCell ⟨b,3,none⟩ u).heap.size=w.heap.size:=by simp only [World.size_setCell]
theorem zeV {S:Nat→Prop} {w w':World} (h:KB S w w') (b:Nat) (x y z u:Value) (hb:S b):KB S w ((((w'.setCell ⟨b,0,none⟩ x).setCell ⟨b,1,none⟩ y).setCell ⟨b,2,none⟩ z).setCell ⟨b,3,none⟩ u):=
  zbV (zbV (zbV (zbV h b 0 x (fun _=>hb)) b 1 y (fun _=>hb)) b 2 z (fun _=>hb)) b 3 u (fun _=>hb)
structure EmS (w:World) (E:Nat) (v3 v4:Value) (a b:Nat):Prop where
  le:E≤w.heap.size
  o3:∃ cells:List Cl,cells.length=a∧w.ownsRow E 89 2 v3 a (cells.flatMap clC)
  o4:∃ code:List Ins,code.length=b∧w.ownsRow E 76 2 v4 b (code.flatMap insC)
  apart:∀ g,v3.ownBlock=some g→v4.ownBlock≠some g
theorem EmS.lt3 {w:World} {E:Nat} {v3 v4:Value} {a b g:Nat} (h:EmS w E v3 v4 a b) (e:v3.ownBlock=some g):E≤g∧g<w.heap.size:=by
  obtain ⟨_,-,o⟩:=h.o3;exact o.lt g e
theorem EmS.lt4 {w:World} {E:Nat} {v3 v4:Value} {a b g:Nat} (h:EmS w E v3 v4 a b) (e:v4.ownBlock=some g):E≤g∧g<w.heap.size:=by
  obtain ⟨_,-,o⟩:=h.o4;exact o.lt g e
theorem EmS.keep {w w':World} {E:Nat} {v3 v4:Value} {a b:Nat} (h:EmS w E v3 v4 a b) (hs:w.heap.size≤w'.heap.size) (h3:∀ g,v3.ownBlock=some g→w'.heap[g]? = w.heap[g]?) (h4:∀ g,v4.ownBlock=some g→w'.heap[g]? = w.heap[g]?):EmS w' E v3 v4 a b:=by
  obtain ⟨l3,e3,o3⟩:=h.o3;obtain ⟨l4,e4,o4⟩:=h.o4;exact ⟨Nat.le_trans h.le hs,⟨l3,e3,zam o3 fun g e _=>h3 g e⟩,⟨l4,e4,zam o4 fun g e _=>h4 g e⟩,h.apart⟩
theorem EmS.below {w w':World} {E:Nat} {v3 v4:Value} {a b:Nat} (h:EmS w E v3 v4 a b) (k:Below w.heap.size w w'):EmS w' E v3 v4 a b:=
  h.keep k.size (fun _ e=>k.block _ (h.lt3 e).2) (fun _ e=>k.block _ (h.lt4 e).2)
def OwnS (n:Nat) (v3 v4:Value) (g:Nat):Prop:=n≤g∨v3.ownBlock=some g∨v4.ownBlock=some g
def RetEt (s1 s2:Value) (E:Nat) (w:World) (v3 v4:Value) (a b:Nat) (e:Ending) (w':World):Prop:=
  ∃ v3' v4',e = .returned (.agg #[s1,s2,v3',v4'])∧EmS w' E v3' v4' a b∧KB (OwnS w.heap.size v3 v4) w w'∧Fresh w v3 v3'∧Fresh w v4 v4'
theorem OwnS.fresh {w:World} {n:Nat} {v3 v4 v3' v4':Value} (h3:Fresh w v3 v3') (h4:Fresh w v4 v4') (hn:n≤w.heap.size) {m g:Nat} (hm:n≤m) (h:OwnS m v3' v4' g):OwnS n v3 v4 g:=by
  rcases h with q | q | q
  · exact .inl (Nat.le_trans hm q)
  · rcases h3 with e | ⟨z,e,hz⟩
    · exact .inr (.inl (e.symm.trans q))
    · rw [e] at q
      injection q with q
      exact .inl (by omega)
  · rcases h4 with e | ⟨z,e,hz⟩
    · exact .inr (.inr (e.symm.trans q))
    · rw [e] at q
      injection q with q
      exact .inl (by omega)
def EtL (f:Ex→Nat × Nat) (w W0:World) (E:Nat) (s1 s2 v3 v4:Value) (ex nil:Obj) (ks:List Ex) (Ta Tb g:Nat) (v:Value) (wr:World):Prop:=
  ∃ (k:Nat) (v3' v4':Value) (a b:Nat),k≤ks.length∧ks.length-k<g∧v = .int .i64 (k:Int)∧a+(cntL f (ks.drop k)).2=Ta∧b+(cntL f (ks.drop k)).1=Tb ∧
    wr.heap[w.heap.size]? = some (.cells #[s1,s2,v3',v4'] 35 (0,0))∧wr.heap[w.heap.size+1]? = some ex∧wr.heap[w.heap.size+2]? = some nil ∧
    EmS wr E v3' v4' a b∧KB (OwnS w.heap.size v3 v4) w wr∧Fresh W0 v3 v3'∧Fresh W0 v4 v4'∧W0.heap.size≤wr.heap.size
theorem nm_src {w:World} {base:Nat} {A:Option Addr} {c:Nat} {ins:List Sg} (h:w.ownsRow base 9 1 (.slice A ins.length c) ins.length (ins.map fun s=>nmV s.nm)) (hs:∀ s∈ins,s.nm.length≤maxLen):Rw NmC 1 w (Old w) A (ins.map (·.nm)).length (ins.map (·.nm)):=by
  refine Rw.of_own (f:=fun s=>[nmV s]) (base:=base) (e := 9) (c:=c) ?_ rfl (fun _ _=>rfl) (fun s q=>⟨rfl,?_⟩) (fun b _ q=>q)
  · rw [← List.map_eq_flatMap,List.map_map,List.length_map]
    exact h
  · obtain ⟨r,hr',rfl⟩:=List.mem_map.1 q
    exact hs r hr'
theorem KB.keepE {w w':World} {E n:Nat} {v3 v4:Value} {a b:Nat} (h:KB (OwnS n v3 v4) w w') (hes:EmS w E v3 v4 a b) (hn:E≤n):KeepOn (fun g=>g<E) w w':=fun g hg=>by
  have hg':g<E:=hg;refine h.block g (Nat.lt_of_lt_of_le hg' hes.le) fun q => ?_
  rcases q with q | q | q
  · omega
  · have:=(hes.lt3 q).1
    omega
  · have:=(hes.lt4 q).1
    omega
structure EtZ (w W0:World) (E:Nat) (s1 s2 v3 v4:Value) (ex nil:Obj) (nI:Nat) (wz:World) (v3z v4z:Value) (op iz:Int) (a b:Nat):Prop where
  x0:wz.heap[w.heap.size]? = some (.cells #[s1,s2,v3z,v4z] 35 (0,0))
  x1:wz.heap[w.heap.size+1]? = some ex
  x2:wz.heap[w.heap.size+2]? = some nil
  xi:wz.heap[nI]? = some (.cells #[.int .i64 op,.int .i64 iz] 76 (0,0))
  es:EmS wz E v3z v4z a b
  kb:KB (OwnS w.heap.size v3 v4) w wz
  n3:∀ i,i<3→v3z.ownBlock≠some (w.heap.size+i)∧v4z.ownBlock≠some (w.heap.size+i)
  ni:v3z.ownBlock≠some nI∧v4z.ownBlock≠some nI
  f3:Fresh W0 v3 v3z
  f4:Fresh W0 v4 v4z
  sz:W0.heap.size≤wz.heap.size
  s0:W0.heap.size=w.heap.size+3
  nb:W0.heap.size≤nI
theorem EtZ.cells {w W0 wz:World} {E nI:Nat} {s1 s2 v3 v4 v3z v4z e0 e1 e2 e3:Value} {nil:Obj} {op iz:Int} {a b:Nat} (h:EtZ w W0 E s1 s2 v3 v4 (Obj.cells #[e0,e1,e2,e3] 48) nil nI wz v3z v4z op iz a b) :
    (wz.cell? ⟨w.heap.size,0,none⟩=some s1∧wz.cell? ⟨w.heap.size,1,none⟩=some s2∧wz.cell? ⟨w.heap.size,2,none⟩=some v3z∧wz.cell? ⟨w.heap.size,3,none⟩=some v4z) ∧
    (wz.cell? ⟨w.heap.size+1,0,none⟩=some e0∧wz.cell? ⟨w.heap.size+1,1,none⟩=some e1∧wz.cell? ⟨w.heap.size+1,2,none⟩=some e2) ∧
    (wz.cell? ⟨nI,0,none⟩=some (.int .i64 op)∧wz.cell? ⟨nI,1,none⟩=some (.int .i64 iz)) ∧
    (wz.frozen? ⟨nI,0,none⟩=false∧wz.frozen? ⟨nI,1,none⟩=false∧wz.frozen? ⟨w.heap.size,2,none⟩=false∧wz.frozen? ⟨w.heap.size,3,none⟩=false) ∧
    (w.heap.size<wz.heap.size∧w.heap.size+1<wz.heap.size∧w.heap.size+2<wz.heap.size∧nI<wz.heap.size):=by
  have h0:=h.x0;have h1:=h.x1;have hi:=h.xi;have:=h.sz;have:=h.s0;refine ⟨⟨?_,?_,?_,?_⟩,⟨?_,?_,?_⟩,⟨?_,?_⟩,⟨Lib.frozen_of_heap hi 0,Lib.frozen_of_heap hi 1,Lib.frozen_of_heap h0 2,Lib.frozen_of_heap h0 3⟩,by omega,by omega,by omega,(Array.getElem?_eq_some_iff.1 hi).1⟩ <;> simp [World.cell?,h0,h1,hi]
theorem EtZ.below {w W0 wz wy:World} {E nI:Nat} {s1 s2 v3 v4 v3z v4z:Value} {ex nil:Obj} {op iz:Int} {a b:Nat} (h:EtZ w W0 E s1 s2 v3 v4 ex nil nI wz v3z v4z op iz a b) (k:Below wz.heap.size wz wy):EtZ w W0 E s1 s2 v3 v4 ex nil nI wy v3z v4z op iz a b:=by
  have hs:=h.sz;have h0:=h.s0;have hi:=(Array.getElem?_eq_some_iff.1 h.xi).1;exact ⟨(k.block _ (by omega)).trans h.x0,(k.block _ (by omega)).trans h.x1,(k.block _ (by omega)).trans h.x2,(k.block _ hi).trans h.xi,h.es.below k,h.kb.trans (KB.of_below k),h.n3,h.ni,h.f3,h.f4,Nat.le_trans hs k.size,h0,h.nb⟩
theorem EtZ.drew {w W0 wz:World} {E nI:Nat} {s1 s2 v3 v4 v3z v4z:Value} {ex nil:Obj} {op iz:Int} {a b:Nat} (h:EtZ w W0 E s1 s2 v3 v4 ex nil nI wz v3z v4z op iz a b):EtZ w W0 E s1 s2 v3 v4 ex nil nI wz.drew v3z v4z op iz a b:=h.below (zad (Below.refl _ _))
theorem EtZ.at_ {w W0 wz wy:World} {E nI:Nat} {s1 s2 v3 v4 v3z v4z:Value} {ex nil:Obj} {op iz op' iz':Int} {a b:Nat} (h:EtZ w W0 E s1 s2 v3 v4 ex nil nI wz v3z v4z op iz a b) (k:KB (fun g=>g=nI) wz wy) (hx:wy.heap[nI]? = some (.cells #[.int .i64 op',.int .i64 iz'] 76 (0,0))):EtZ w W0 E s1 s2 v3 v4 ex nil nI wy v3z v4z op' iz' a b:=by
  have hs:=h.sz;have h0:=h.s0;have hb:=h.nb
  refine ⟨(k.block _ (by omega) (by omega)).trans h.x0,(k.block _ (by omega) (by omega)).trans h.x1,(k.block _ (by omega) (by omega)).trans h.x2,hx,h.es.keep k.size (fun g e=>k.block g (h.es.lt3 e).2 (fun q=>h.ni.1 (by rw [← q];exact e))) (fun g e=>k.block g (h.es.lt4 e).2 (fun q=>h.ni.2 (by rw [← q];exact e))),
    h.kb.trans (k.mono (fun g _ q => .inl (by omega))),h.n3,h.ni,h.f3,h.f4,Nat.le_trans hs k.size,h0,hb⟩
theorem EtZ.set1 {w W0 wz:World} {E nI:Nat} {s1 s2 v3 v4 v3z v4z:Value} {ex nil:Obj} {op iz:Int} {a b:Nat} (h:EtZ w W0 E s1 s2 v3 v4 ex nil nI wz v3z v4z op iz a b) (z:Int):EtZ w W0 E s1 s2 v3 v4 ex nil nI (wz.setCell ⟨nI,1,none⟩ (.int .i64 z)) v3z v4z op z a b:=
  h.at_ (KB.of_grown (zaf wz nI 1 _) (fun g _ e=>by injection e with e;exact e.symm)) (by have:=heap_setCell_same wz nI 1 _ _ (.int .i64 z) h.xi;rw [this];rfl)
theorem EtZ.set2 {w W0 wz:World} {E nI:Nat} {s1 s2 v3 v4 v3z v4z:Value} {ex nil:Obj} {op iz:Int} {a b:Nat} (h:EtZ w W0 E s1 s2 v3 v4 ex nil nI wz v3z v4z op iz a b) (o z:Int):EtZ w W0 E s1 s2 v3 v4 ex nil nI ((wz.setCell ⟨nI,0,none⟩ (.int .i64 o)).setCell ⟨nI,1,none⟩ (.int .i64 z)) v3z v4z o z a b:=
  h.at_ (zid wz nI (.int .i64 o) (.int .i64 z)) (zar h.xi (.int .i64 o) (.int .i64 z)).2.2
theorem EtZ.set2x {w W0 wz wy:World} {E nI:Nat} {s1 s2 v3 v4 v3z v4z e0 e1 e2 e3:Value} {nil:Obj} {op iz:Int} {a b:Nat} (h:EtZ w W0 E s1 s2 v3 v4 (Obj.cells #[e0,e1,e2,e3] 48) nil nI wz v3z v4z op iz a b) (k:Below wz.heap.size wz wy) (o z:Int) :
    (((wy.setCell ⟨nI,0,none⟩ (.int .i64 o)).setCell ⟨nI,1,none⟩ (.int .i64 z)).cell? ⟨w.heap.size,0,none⟩=some s1∧((wy.setCell ⟨nI,0,none⟩ (.int .i64 o)).setCell ⟨nI,1,none⟩ (.int .i64 z)).cell? ⟨w.heap.size+1,2,none⟩=some e2) ∧
    (((wy.setCell ⟨nI,0,none⟩ (.int .i64 o)).setCell ⟨nI,1,none⟩ (.int .i64 z)).drew.cell? ⟨w.heap.size,0,none⟩=some s1∧((wy.setCell ⟨nI,0,none⟩ (.int .i64 o)).setCell ⟨nI,1,none⟩ (.int .i64 z)).drew.cell? ⟨w.heap.size+1,2,none⟩=some e2):=by
  have h1:=((h.below k).set2 o z).cells;have h2:=((h.below k).set2 o z).drew.cells;exact ⟨⟨h1.1.1,h1.2.1.2.2⟩,⟨h2.1.1,h2.2.1.2.2⟩⟩
theorem EtZ.push3 {w W0 wz w6:World} {E nI:Nat} {s1 s2 v3 v4 v3z v4z v6:Value} {ex nil o:Obj} {op iz:Int} {a b:Nat} (h:EtZ w W0 E s1 s2 v3 v4 ex nil nI wz v3z v4z op iz a b) {l:List Cl} (hl:l.length=a) (i:Cl)
    (ho:w6.ownsRow E 89 2 v6 (a+1) (l.flatMap clC++clC i)) (hg:(wz.alloc o).grownBy w6 v3z.ownBlock) (hv:v6.ownBlock=v3z.ownBlock∨v6.ownBlock=some (wz.alloc o).heap.size) :
    w6.heap[w.heap.size]? = some (.cells #[s1,s2,v3z,v4z] 35 (0,0))∧EtZ w W0 E s1 s2 v3 v4 ex nil nI (w6.setCell ⟨w.heap.size,2,none⟩ v6) v6 v4z op iz (a+1) b:=by
  have hs:=h.sz;have h0:=h.s0;have hb:=h.nb;have hz:=hg.size;rw [World.size_alloc] at hz hv;have hiz:=(Array.getElem?_eq_some_iff.1 h.xi).1;have hk:∀ g,g<wz.heap.size→v3z.ownBlock≠some g→w6.heap[g]? = wz.heap[g]? := fun g h1 h2=>(hg.block g (by rw [World.size_alloc];omega) (fun q=>h2 q.symm)).trans (Lib.alloc_old wz o g h1)
  have hx0:=(hk w.heap.size (by omega) (h.n3 0 (by omega)).1).trans h.x0;have hne:∀ g,g≠w.heap.size→(w6.setCell ⟨w.heap.size,2,none⟩ v6).heap[g]? = w6.heap[g]? := fun g q=>Below.heap_setCell w6 _ v6 g (fun e=>q e)
  have hv0:∀ k,k<wz.heap.size→v3z.ownBlock≠some k→v6.ownBlock≠some k:=fun k h1 h2=>by
    rcases hv with e | e
    · rw [e];exact h2
    · rw [e];intro q;injection q with q;omega
  obtain ⟨l4,e4,o4⟩:=h.es.o4;have hgs:KB (OwnS w.heap.size v3 v4) wz w6:=(KB.of_below (zaa wz o)).trans (KB.of_grown hg (fun g _ q=>OwnS.fresh h.f3 h.f4 (by omega) (Nat.le_trans (by omega) hs) (m:=wz.heap.size) (.inr (.inl q))));refine ⟨hx0,⟨?_,?_,?_,?_,⟨?_,⟨l++[i],by simp [hl],?_⟩,⟨l4,e4,?_⟩,?_⟩,?_,?_,?_,?_,h.f4,?_,h0,hb⟩⟩
  · have:=heap_setCell_same w6 w.heap.size 2 _ _ v6 hx0
    rw [this];rfl
  · exact (hne _ (by omega)).trans ((hk _ (by omega) (h.n3 1 (by omega)).1).trans h.x1)
  · exact (hne _ (by omega)).trans ((hk _ (by omega) (h.n3 2 (by omega)).1).trans h.x2)
  · exact (hne _ (by omega)).trans ((hk _ hiz h.ni.1).trans h.xi)
  · rw [World.size_setCell];have:=h.es.le;omega
  · have h2:=zam ho (w':=w6.setCell ⟨w.heap.size,2,none⟩ v6) (fun g e _=>hne g (fun q=>hv0 w.heap.size (by omega) (h.n3 0 (by omega)).1 (by rw [← q];exact e)))
    simpa using h2
  · exact zam o4 (fun g e hgs=>(hne g (fun q=>(h.n3 0 (by omega)).2 (by rw [Nat.add_zero,← q];exact e))).trans (hk g hgs (fun q=>h.es.apart g q e)))
  · intro g e q
    rcases hv with e' | e'
    · exact h.es.apart g (e'.symm.trans e) q
    · have:=(h.es.lt4 q).2
      rw [e'] at e
      injection e with e
      omega
  · exact zbV (h.kb.trans hgs) _ _ _ (fun _ => .inl (Nat.le_refl _))
  · exact fun j hj=>⟨hv0 _ (by omega) (h.n3 j hj).1,(h.n3 j hj).2⟩
  · exact ⟨hv0 _ hiz h.ni.1,h.ni.2⟩
  · rcases hv with e | e
    · rcases h.f3 with q | ⟨z,q,hz⟩
      · exact .inl (e.trans q)
      · exact .inr ⟨z,e.trans q,hz⟩
    · exact .inr ⟨_,e,by omega⟩
  · rw [World.size_setCell];omega
theorem EtZ.push4 {w W0 wz w6:World} {E nI:Nat} {s1 s2 v3 v4 v3z v4z v6:Value} {ex nil o:Obj} {op iz:Int} {a b:Nat} (h:EtZ w W0 E s1 s2 v3 v4 ex nil nI wz v3z v4z op iz a b) {l:List Ins} (hl:l.length=b) (i:Ins)
    (ho:w6.ownsRow E 76 2 v6 (b+1) (l.flatMap insC++insC i)) (hg:(wz.alloc o).grownBy w6 v4z.ownBlock) (hv:v6.ownBlock=v4z.ownBlock∨v6.ownBlock=some (wz.alloc o).heap.size) :
    w6.heap[w.heap.size]? = some (.cells #[s1,s2,v3z,v4z] 35 (0,0))∧EtZ w W0 E s1 s2 v3 v4 ex nil nI (w6.setCell ⟨w.heap.size,3,none⟩ v6) v3z v6 op iz a (b+1):=by
  have hs:=h.sz;have h0:=h.s0;have hb:=h.nb;have hz:=hg.size;rw [World.size_alloc] at hz hv;have hiz:=(Array.getElem?_eq_some_iff.1 h.xi).1;have hk:∀ g,g<wz.heap.size→v4z.ownBlock≠some g→w6.heap[g]? = wz.heap[g]? := fun g h1 h2=>(hg.block g (by rw [World.size_alloc];omega) (fun q=>h2 q.symm)).trans (Lib.alloc_old wz o g h1)
  have hx0:=(hk w.heap.size (by omega) (h.n3 0 (by omega)).2).trans h.x0;have hne:∀ g,g≠w.heap.size→(w6.setCell ⟨w.heap.size,3,none⟩ v6).heap[g]? = w6.heap[g]? := fun g q=>Below.heap_setCell w6 _ v6 g (fun e=>q e)
  have hv0:∀ k,k<wz.heap.size→v4z.ownBlock≠some k→v6.ownBlock≠some k:=fun k h1 h2=>by
    rcases hv with e | e
    · rw [e];exact h2
    · rw [e];intro q;injection q with q;omega
  obtain ⟨l3,e3,o3⟩:=h.es.o3;have hgs:KB (OwnS w.heap.size v3 v4) wz w6:=(KB.of_below (zaa wz o)).trans (KB.of_grown hg (fun g _ q=>OwnS.fresh h.f3 h.f4 (by omega) (Nat.le_trans (by omega) hs) (m:=wz.heap.size) (.inr (.inr q))));refine ⟨hx0,⟨?_,?_,?_,?_,⟨?_,⟨l3,e3,?_⟩,⟨l++[i],by simp [hl],?_⟩,?_⟩,?_,?_,?_,h.f3,?_,?_,h0,hb⟩⟩
  · have:=heap_setCell_same w6 w.heap.size 3 _ _ v6 hx0
    rw [this];rfl
  · exact (hne _ (by omega)).trans ((hk _ (by omega) (h.n3 1 (by omega)).2).trans h.x1)
  · exact (hne _ (by omega)).trans ((hk _ (by omega) (h.n3 2 (by omega)).2).trans h.x2)
  · exact (hne _ (by omega)).trans ((hk _ hiz h.ni.2).trans h.xi)
  · rw [World.size_setCell];have:=h.es.le;omega
  · exact zam o3 (fun g e hgs=>(hne g (fun q=>(h.n3 0 (by omega)).1 (by rw [Nat.add_zero,← q];exact e))).trans (hk g hgs (fun q=>h.es.apart g e q)))
  · have h2:=zam ho (w':=w6.setCell ⟨w.heap.size,3,none⟩ v6) (fun g e _=>hne g (fun q=>hv0 w.heap.size (by omega) (h.n3 0 (by omega)).2 (by rw [← q];exact e)))
    simpa using h2
  · intro g e q
    rcases hv with e' | e'
    · exact h.es.apart g e (e'.symm.trans q)
    · have:=(h.es.lt3 e).2
      rw [e'] at q
      injection q with q
      omega
  · exact zbV (h.kb.trans hgs) _ _ _ (fun _ => .inl (Nat.le_refl _))
  · exact fun j hj=>⟨(h.n3 j hj).1,hv0 _ (by omega) (h.n3 j hj).2⟩
  · exact ⟨h.ni.1,hv0 _ hiz h.ni.2⟩
  · rcases hv with e | e
    · rcases h.f4 with q | ⟨z,q,hz⟩
      · exact .inl (e.trans q)
      · exact .inr ⟨z,e.trans q,hz⟩
    · exact .inr ⟨_,e,by omega⟩
  · rw [World.size_setCell];omega
theorem EtZ.done {w W0 wz:World} {E nI:Nat} {s1 s2 v3 v4 v3z v4z r0 r1 r2 r3:Value} {ex:Obj} {op iz:Int} {a b:Nat} (h:EtZ w W0 E s1 s2 v3 v4 ex (Obj.cells #[r0,r1,r2,r3] 35) nI wz v3z v4z op iz a b) :
    ((((wz.setCell ⟨w.heap.size+2,0,none⟩ s1).setCell ⟨w.heap.size+2,1,none⟩ s2).setCell ⟨w.heap.size+2,2,none⟩ v3z).setCell ⟨w.heap.size+2,3,none⟩ v4z).heap[w.heap.size+2]? = some (.cells #[s1,s2,v3z,v4z] 35 (0,0)) ∧
    RetEt s1 s2 E w v3 v4 a b (.returned (.agg #[s1,s2,v3z,v4z])) ((((wz.setCell ⟨w.heap.size+2,0,none⟩ s1).setCell ⟨w.heap.size+2,1,none⟩ s2).setCell ⟨w.heap.size+2,2,none⟩ v3z).setCell ⟨w.heap.size+2,3,none⟩ v4z):=by
  have hs:=h.sz;have h0:=h.s0;have hf:=zdW wz (w.heap.size+2) s1 s2 v3z v4z
  refine ⟨zbf h.x2 s1 s2 v3z v4z,v3z,v4z,rfl,h.es.keep (by rw [zch];exact Nat.le_refl _) (fun g e=>hf g (fun q=>(h.n3 2 (by omega)).1 (by rw [← q];exact e))) (fun g e=>hf g (fun q=>(h.n3 2 (by omega)).2 (by rw [← q];exact e))),
    zeV h.kb _ _ _ _ _ (.inl (by omega)),h.f3.pre (by omega),h.f4.pre (by omega)⟩
theorem zjn (ins:List Sg) (rls:List (List UInt8)) (E:Nat) (A1 A2:Option Addr) (c1 c2:Nat) (hil:ins.length≤100000) (hrl:rls.length≤maxLen):∀ (d:Nat) (op n:Int) (nm:List UInt8) (A:Option Addr) (c:Nat) (ks:List Ex) (w:World) (v3 v4:Value) (a b:Nat),
    okG (d+1) (.mk op n nm ks)→ExP op n nm→ks.length≤9223372036854775807→Rw ExV 4 w (fun g=>g<E) A ks.length ks→EmS w E v3 v4 a b →
    Rw SgC 2 w (fun g=>g<E) A1 ins.length ins→Rw NmC 1 w (fun g=>g<E) A2 rls.length rls→a+(cntG (d+1) (.mk op n nm ks)).2≤100000→b+(cntG (d+1) (.mk op n nm ks)).1≤100000 →
    Calls Tryz.prog 27 #[.agg #[.slice A1 ins.length c1,.slice A2 rls.length c2,v3,v4],exV op n nm A ks.length c] w (RetEt (.slice A1 ins.length c1) (.slice A2 rls.length c2) E w v3 v4 (a+(cntG (d+1) (.mk op n nm ks)).2) (b+(cntG (d+1) (.mk op n nm ks)).1)):=by
  intro d
  induction d using Nat.strongRecOn with
  | _ d ih =>
    intro op n nm A c ks w v3 v4 a b hok hp hkl hr hw hri hrr ha hb;have hc1:(cntG (d+1) (.mk op n nm ks)).1=(cntL (cntG d) ks).1+1:=rfl;have hc2:(cntG (d+1) (.mk op n nm ks)).2=(cntL (cntG d) ks).2+(if zaG op then 1 else 0):=rfl;rw [hc1,← Nat.add_assoc] at hb ⊢;rw [hc2,← Nat.add_assoc] at ha ⊢;obtain ⟨Ta,hTa⟩:∃ T,a+(cntL (cntG d) ks).2=T:=⟨_,rfl⟩;obtain ⟨Tb,hTb⟩:∃ T,b+(cntL (cntG d) ks).1=T:=⟨_,rfl⟩;rw [hTa] at ha ⊢;rw [hTb] at hb ⊢;have hta:Ta≤100000:=by omega
    obtain ⟨kc,hkc⟩:∃ kc:Nat,(if zaG op then 1 else 0)=kc:=⟨_,rfl⟩;rw [hkc] at ha ⊢;have HKC:=Hi hkc;clear hkc;have hnl:=hp.2.2;have HTA:=Hi hTa;have HTB:=Hi hTb;have HOK:=Hi hok;have HIH:=Hi ih;have HR:=Hi hr;have HRI:=Hi hri;have HRR:=Hi hrr;have HP:=Hi hp;have HW:=Hi hw;have hEw:=hw.le;obtain ⟨hn0,hn1,hn2,hs0,hb0⟩:=zjD w (Obj.cells #[.slice A1 ins.length c1,.slice A2 rls.length c2,v3,v4] 35) (Obj.cells #[.int .i64 op,.int .i64 n,.string ⟨nm.toArray⟩,.slice A ks.length c] 48) (Obj.cells #[.slice Option.none 0 0,.slice Option.none 0 0,.slice Option.none 0 0,.slice Option.none 0 0] 35);have HN0:=Hi hn0;have HN1:=Hi hn1;have HN2:=Hi hn2;have HB0:=Hi hb0;have HS0:=Hi hs0;have x3:=(zaS hn1).2.2.2;have hxl:w.heap.size+1<(((w.alloc (Obj.cells #[.slice A1 ins.length c1,.slice A2 rls.length c2,v3,v4] 35)).alloc (Obj.cells #[.int .i64 op,.int .i64 n,.string ⟨nm.toArray⟩,.slice A ks.length c] 48)).alloc (Obj.cells #[.slice Option.none 0 0,.slice Option.none 0 0,.slice Option.none 0 0,.slice Option.none 0 0] 35)).heap.size:=by omega
    clear hc1 hc2 hTa hTb hok ih hr hri hrr hp hw hn0 hn1 hn2 hs0 hb0 ha;unfold exV;go_enter Tryz.func27,Tryz.ntmps27;go_upto_region 1 with fail
    generalize ((w.alloc (Obj.cells #[.slice A1 ins.length c1,.slice A2 rls.length c2,v3,v4] 35)).alloc (Obj.cells #[.int .i64 op,.int .i64 n,.string ⟨nm.toArray⟩,.slice A ks.length c] 48)).alloc (Obj.cells #[.slice Option.none 0 0,.slice Option.none 0 0,.slice Option.none 0 0,.slice Option.none 0 0] 35)=W0 at *;go_wp2;clear x3;go_loopg [11] (ks.length+1) (fun g v wr=>EtL (cntG d) w W0 E (.slice A1 ins.length c1) (.slice A2 rls.length c2) v3 v4 (Obj.cells #[.int .i64 op,.int .i64 n,.string ⟨nm.toArray⟩,.slice A ks.length c] 48) (Obj.cells #[.slice Option.none 0 0,.slice Option.none 0 0,.slice Option.none 0 0,.slice Option.none 0 0] 35) ks Ta Tb g v wr)
    case atStart=>exact ⟨0,v3,v4,a,b,Nat.zero_le _,by omega,rfl,by rw [List.drop_zero];exact HTA.out,by rw [List.drop_zero];exact HTB.out,HN0.out,HN1.out,HN2.out,HW.out.below HB0.out,KB.of_below HB0.out,Fresh.refl _ _,Fresh.refl _ _,Nat.le_refl _⟩
    case round =>
      obtain ⟨k,v3',v4',a',b',hk,hg,rfl,ha',hb',hn0,hn1,hn2,hes,hkb,hf3,hf4,hsw⟩:=hrel;have hs0:=HS0.out;have hsz:=hkb.size;have hbE:=hkb.keepE HW.out hEw;have HBE:=Hi hbE;have r0:wr.cell? ⟨w.heap.size+1,0,none⟩=some (.int .i64 op):=by simp [World.cell?,hn1]
      have r1:wr.cell? ⟨w.heap.size+1,1,none⟩=some (.int .i64 n):=by simp [World.cell?,hn1]
      have r2:wr.cell? ⟨w.heap.size+1,2,none⟩=some (.string ⟨nm.toArray⟩):=by simp [World.cell?,hn1]
      have q0:wr.cell? ⟨w.heap.size,0,none⟩=some (.slice A1 ins.length c1):=by simp [World.cell?,hn0]
      have q1:wr.cell? ⟨w.heap.size,1,none⟩=some (.slice A2 rls.length c2):=by simp [World.cell?,hn0]
      have q2:wr.cell? ⟨w.heap.size,2,none⟩=some v3':=by simp [World.cell?,hn0]
      have q3:wr.cell? ⟨w.heap.size,3,none⟩=some v4':=by simp [World.cell?,hn0]
      have hl0:w.heap.size<wr.heap.size:=by omega
      have hl1:w.heap.size+1<wr.heap.size:=by omega
      have HX0:=Hi hn0;have HX1:=Hi hn1;have HX2:=Hi hn2;have HES:=Hi hes;have HKB:=Hi hkb;have HF3:=Hi hf3;have HF4:=Hi hf4
      -- the rows never lie in the call's own boxes
      have HNB:=Hi (fun (i:Nat) (h:i<3)=>show v3'.ownBlock≠some (w.heap.size+i)∧v4'.ownBlock≠some (w.heap.size+i) from
        ⟨hf3.ne (by omega) (fun q=>by have:=(HW.out.lt3 q).2;omega),hf4.ne (by omega) (fun q=>by have:=(HW.out.lt4 q).2;omega)⟩)
      clear hn0 hn1 hn2 hes hkb hf3 hf4 hbE HN0 HN1 HN2
      by_cases hlk:k<ks.length
      case neg =>
        obtain rfl:k=ks.length:=by omega
        rw [List.drop_length] at ha' hb';obtain rfl:a'=Ta:=ha';obtain rfl:b'=Tb:=hb';have hop:=zcS HOK.out.1;clear HTA HTB HIH HR hlk;have hbi:=zaa wr (Obj.cells #[.int .i64 op,.int .i64 0] 76)
        have HZ0:Hid (EtZ w W0 E (.slice A1 ins.length c1) (.slice A2 rls.length c2) v3 v4 (Obj.cells #[.int .i64 op,.int .i64 n,.string ⟨nm.toArray⟩,.slice A ks.length c] 48) (Obj.cells #[.slice Option.none 0 0,.slice Option.none 0 0,.slice Option.none 0 0,.slice Option.none 0 0] 35) wr.heap.size (wr.alloc (Obj.cells #[.int .i64 op,.int .i64 0] 76)) v3' v4' op 0 a' b'):=Hi ⟨(hbi.block _ (by omega)).trans HX0.out,(hbi.block _ (by omega)).trans HX1.out,(hbi.block _ (by omega)).trans HX2.out,heap_alloc_new wr _,HES.out.below hbi,HKB.out.trans (KB.of_below hbi),HNB.out,
          ⟨fun q=>Nat.lt_irrefl _ (HES.out.lt3 q).2,fun q=>Nat.lt_irrefl _ (HES.out.lt4 q).2⟩,HF3.out,HF4.out,by rw [World.size_alloc];omega,hs0,hsw⟩
        obtain ⟨A3,c3,rfl,-,-⟩:∃ A c,v3' = .slice A a' c∧a'≤c∧c≤maxLen:=by
          obtain ⟨_,-,o⟩:=HES.out.o3;exact zag o
        obtain ⟨A4,c4,rfl,-,-⟩:∃ A c,v4' = .slice A b' c∧b'≤c∧c≤maxLen:=by
          obtain ⟨_,-,o⟩:=HES.out.o4;exact zag o
        have hrI:=(HRI.out.mono SgC.mono (fun g q=>q) HBE.out).mono SgC.mono (fun g q=>q) (zab (S:=fun g=>g<E) hbi (fun g q=>by have q':g<E:=q;omega));have HRI2:=Hi hrI;have hEI:E≤(wr.alloc (Obj.cells #[.int .i64 op,.int .i64 0] 76)).heap.size:=by rw [World.size_alloc];omega
        have HHC:=Hi (fun W=>zhe op W);obtain ⟨ti,hti,hz0,hz1,hz2⟩:=info_parts zgs;obtain ⟨tc,htc,hy0,hy1,hy2⟩:=info_parts zkU;have HTI:=Hi (And.intro hti (And.intro hz0 (And.intro hz1 hz2)));have HTC:=Hi (And.intro htc (And.intro hy0 (And.intro hy1 hy2)));clear hbi hrI hti hz0 hz1 hz2 htc hy0 hy1 hy2 HX0 HX1 HX2 HES HKB HNB HF3 HF4 HRI HBE;go_upto_region 7 with fail
        clear q0 q1 q2 q3 r0 r1 r2 hl0 hl1 hsw hsz;generalize wr.alloc (Obj.cells #[.int .i64 op,.int .i64 0] 76)=WI at *;obtain ⟨⟨q0,q1,q2,q3⟩,⟨r0,r1,r2⟩,⟨j0,j1⟩,⟨f0,f1,f2,f3⟩,hl0,hl1,hl2,hli⟩:=HZ0.out.cells
        by_cases h12:op=1∨op=2
        · have hkc:kc=0:=by rw [← HKC.out];rcases h12 with e | e <;> rw [e] <;> rfl
          subst hkc
          have HZ1:=Hi (HZ0.out.set1 n)
          clear HKC hop
          rcases h12 with rfl | rfl
          · go_upto_region 16 with fail
            clear q0 q1 q2 q3 r0 r1 r2 j0 j1 f0 f1 f2 f3 hl0 hl1 hl2 hli
            generalize hWJ:WI.setCell ⟨wr.heap.size,1,none⟩ (.int .i64 n)=WJ at *
            clear hWJ
            obtain ⟨⟨q0,q1,q2,q3⟩,⟨r0,r1,r2⟩,⟨j0,j1⟩,⟨f0,f1,f2,f3⟩,hl0,hl1,hl2,hli⟩:=HZ1.out.cells
            clear HZ0
            obtain ⟨code,hcl,ho4⟩:=HZ1.out.es.o4
            have HOX:=Hi (ho4.alloc (Obj.cells #[.int .i64 1,.int .i64 n] 76))
            have HSR:=Hi (zaL WJ [.int .i64 1,.int .i64 n] 76 2 1 rfl)
            have HCL:=Hi hcl
            have HM1:=Hi (show b'+1≤maxLen by unfold maxLen;omega)
            have HM2:=Hi (show (b'+1)*16≤140737488355328 by omega)
            have HBS:=Hi (show E≤(WJ.alloc (Obj.cells #[.int .i64 1,.int .i64 n] 76)).heap.size by rw [World.size_alloc];have:=HZ1.out.es.le;omega)
            clear ho4 hcl
            go_upto_region 17 with (at_builtin;refine zaj (o:=⟨some 76,_,_,_,_,_⟩) (w:=WJ.alloc (Obj.cells #[.int .i64 1,.int .i64 n] 76)) _ _ 33 rfl rfl Tryz.underlying33 HTI.out.1 HTI.out.2.1 HTI.out.2.2.1 HTI.out.2.2.2 rfl (by decide) rfl HOX.out rfl HSR.out (zcr ⟨1,n⟩) HM1.out HM2.out HBS.out ?_;intro v6 w6 hown6 hg6 hv6;have hP:=HZ1.out.push4 HCL.out ⟨1,n⟩ hown6 hg6 hv6;have f6:=Lib.frozen_of_heap hP.1 3;have c6:w6.cell? ⟨w.heap.size,3,none⟩=some (.slice A4 b' c4):=(by have h6:=hP.1;simp [World.cell?,h6]);have l6:=(Array.getElem?_eq_some_iff.1 hP.1).1;have HP6:=Hi hP;obtain ⟨A6,k6,hv6e,-,-⟩:=zag hown6;clear hown6 hg6 hv6 hP;subst hv6e)
            clear q0 q1 q2 q3 r0 r1 r2 j0 j1 f0 f1 f2 f3 hl0 hl1 hl2 hli c6 f6 l6
            have HZ7:=Hi HP6.out.2
            clear HP6
            generalize w6.setCell ⟨w.heap.size,3,none⟩ (.slice A6 (b'+1) k6)=W7 at *
            obtain ⟨⟨q0,q1,q2,q3⟩,-,-,-,hl0,-,hl2,-⟩:=HZ7.out.cells
            have HDN:=Hi HZ7.out.done
            obtain ⟨e20,e21,e22,e23⟩:=zaS HZ7.out.x2
            have g0:=Lib.frozen_of_heap HZ7.out.x2 0
            have g1:=Lib.frozen_of_heap HZ7.out.x2 1
            have g2:=Lib.frozen_of_heap HZ7.out.x2 2
            have g3:=Lib.frozen_of_heap HZ7.out.x2 3
            have hh8:=HDN.out.1
            have z0:((((W7.setCell ⟨w.heap.size+2,0,none⟩ (.slice A1 ins.length c1)).setCell ⟨w.heap.size+2,1,none⟩ (.slice A2 rls.length c2)).setCell ⟨w.heap.size+2,2,none⟩ (.slice A3 a' c3)).setCell ⟨w.heap.size+2,3,none⟩ (.slice A6 (b'+1) k6)).cell? ⟨w.heap.size+2,0,none⟩=some (.slice A1 ins.length c1):=by simp [World.cell?,hh8]
            have z1:((((W7.setCell ⟨w.heap.size+2,0,none⟩ (.slice A1 ins.length c1)).setCell ⟨w.heap.size+2,1,none⟩ (.slice A2 rls.length c2)).setCell ⟨w.heap.size+2,2,none⟩ (.slice A3 a' c3)).setCell ⟨w.heap.size+2,3,none⟩ (.slice A6 (b'+1) k6)).cell? ⟨w.heap.size+2,1,none⟩=some (.slice A2 rls.length c2):=by simp [World.cell?,hh8]
            have z2:((((W7.setCell ⟨w.heap.size+2,0,none⟩ (.slice A1 ins.length c1)).setCell ⟨w.heap.size+2,1,none⟩ (.slice A2 rls.length c2)).setCell ⟨w.heap.size+2,2,none⟩ (.slice A3 a' c3)).setCell ⟨w.heap.size+2,3,none⟩ (.slice A6 (b'+1) k6)).cell? ⟨w.heap.size+2,2,none⟩=some (.slice A3 a' c3):=by simp [World.cell?,hh8]
            have z3:((((W7.setCell ⟨w.heap.size+2,0,none⟩ (.slice A1 ins.length c1)).setCell ⟨w.heap.size+2,1,none⟩ (.slice A2 rls.length c2)).setCell ⟨w.heap.size+2,2,none⟩ (.slice A3 a' c3)).setCell ⟨w.heap.size+2,3,none⟩ (.slice A6 (b'+1) k6)).cell? ⟨w.heap.size+2,3,none⟩=some (.slice A6 (b'+1) k6):=by simp [World.cell?,hh8]
            clear hh8 HZ7
            go_wp2
            refine bodyPost_ret (v := .agg #[(.slice A1 ins.length c1),(.slice A2 rls.length c2),(.slice A3 a' c3),.slice A6 (b'+1) k6]) ?_ rfl ?_
            · simp [results,Tryz.results27,go_sem,z0,z1,z2,z3]
            · exact HDN.out.2
          · go_upto_region 16 with fail
            clear q0 q1 q2 q3 r0 r1 r2 j0 j1 f0 f1 f2 f3 hl0 hl1 hl2 hli
            generalize hWJ:WI.setCell ⟨wr.heap.size,1,none⟩ (.int .i64 n)=WJ at *
            clear hWJ
            obtain ⟨⟨q0,q1,q2,q3⟩,⟨r0,r1,r2⟩,⟨j0,j1⟩,⟨f0,f1,f2,f3⟩,hl0,hl1,hl2,hli⟩:=HZ1.out.cells
            clear HZ0
            obtain ⟨code,hcl,ho4⟩:=HZ1.out.es.o4
            have HOX:=Hi (ho4.alloc (Obj.cells #[.int .i64 2,.int .i64 n] 76))
            have HSR:=Hi (zaL WJ [.int .i64 2,.int .i64 n] 76 2 1 rfl)
            have HCL:=Hi hcl
            have HM1:=Hi (show b'+1≤maxLen by unfold maxLen;omega)
            have HM2:=Hi (show (b'+1)*16≤140737488355328 by omega)
            have HBS:=Hi (show E≤(WJ.alloc (Obj.cells #[.int .i64 2,.int .i64 n] 76)).heap.size by rw [World.size_alloc];have:=HZ1.out.es.le;omega)
            clear ho4 hcl
            go_upto_region 17 with (at_builtin;refine zaj (o:=⟨some 76,_,_,_,_,_⟩) (w:=WJ.alloc (Obj.cells #[.int .i64 2,.int .i64 n] 76)) _ _ 33 rfl rfl Tryz.underlying33 HTI.out.1 HTI.out.2.1 HTI.out.2.2.1 HTI.out.2.2.2 rfl (by decide) rfl HOX.out rfl HSR.out (zcr ⟨2,n⟩) HM1.out HM2.out HBS.out ?_;intro v6 w6 hown6 hg6 hv6;have hP:=HZ1.out.push4 HCL.out ⟨2,n⟩ hown6 hg6 hv6;have f6:=Lib.frozen_of_heap hP.1 3;have c6:w6.cell? ⟨w.heap.size,3,none⟩=some (.slice A4 b' c4):=(by have h6:=hP.1;simp [World.cell?,h6]);have l6:=(Array.getElem?_eq_some_iff.1 hP.1).1;have HP6:=Hi hP;obtain ⟨A6,k6,hv6e,-,-⟩:=zag hown6;clear hown6 hg6 hv6 hP;subst hv6e)
            clear q0 q1 q2 q3 r0 r1 r2 j0 j1 f0 f1 f2 f3 hl0 hl1 hl2 hli c6 f6 l6
            have HZ7:=Hi HP6.out.2
            clear HP6
            generalize w6.setCell ⟨w.heap.size,3,none⟩ (.slice A6 (b'+1) k6)=W7 at *
            obtain ⟨⟨q0,q1,q2,q3⟩,-,-,-,hl0,-,hl2,-⟩:=HZ7.out.cells
            have HDN:=Hi HZ7.out.done
            obtain ⟨e20,e21,e22,e23⟩:=zaS HZ7.out.x2
            have g0:=Lib.frozen_of_heap HZ7.out.x2 0
            have g1:=Lib.frozen_of_heap HZ7.out.x2 1
            have g2:=Lib.frozen_of_heap HZ7.out.x2 2
            have g3:=Lib.frozen_of_heap HZ7.out.x2 3
            have hh8:=HDN.out.1
            have z0:((((W7.setCell ⟨w.heap.size+2,0,none⟩ (.slice A1 ins.length c1)).setCell ⟨w.heap.size+2,1,none⟩ (.slice A2 rls.length c2)).setCell ⟨w.heap.size+2,2,none⟩ (.slice A3 a' c3)).setCell ⟨w.heap.size+2,3,none⟩ (.slice A6 (b'+1) k6)).cell? ⟨w.heap.size+2,0,none⟩=some (.slice A1 ins.length c1):=by simp [World.cell?,hh8]
            have z1:((((W7.setCell ⟨w.heap.size+2,0,none⟩ (.slice A1 ins.length c1)).setCell ⟨w.heap.size+2,1,none⟩ (.slice A2 rls.length c2)).setCell ⟨w.heap.size+2,2,none⟩ (.slice A3 a' c3)).setCell ⟨w.heap.size+2,3,none⟩ (.slice A6 (b'+1) k6)).cell? ⟨w.heap.size+2,1,none⟩=some (.slice A2 rls.length c2):=by simp [World.cell?,hh8]
            have z2:((((W7.setCell ⟨w.heap.size+2,0,none⟩ (.slice A1 ins.length c1)).setCell ⟨w.heap.size+2,1,none⟩ (.slice A2 rls.length c2)).setCell ⟨w.heap.size+2,2,none⟩ (.slice A3 a' c3)).setCell ⟨w.heap.size+2,3,none⟩ (.slice A6 (b'+1) k6)).cell? ⟨w.heap.size+2,2,none⟩=some (.slice A3 a' c3):=by simp [World.cell?,hh8]
            have z3:((((W7.setCell ⟨w.heap.size+2,0,none⟩ (.slice A1 ins.length c1)).setCell ⟨w.heap.size+2,1,none⟩ (.slice A2 rls.length c2)).setCell ⟨w.heap.size+2,2,none⟩ (.slice A3 a' c3)).setCell ⟨w.heap.size+2,3,none⟩ (.slice A6 (b'+1) k6)).cell? ⟨w.heap.size+2,3,none⟩=some (.slice A6 (b'+1) k6):=by simp [World.cell?,hh8]
            clear hh8 HZ7
            go_wp2
            refine bodyPost_ret (v := .agg #[(.slice A1 ins.length c1),(.slice A2 rls.length c2),(.slice A3 a' c3),.slice A6 (b'+1) k6]) ?_ rfl ?_
            · simp [results,Tryz.results27,go_sem,z0,z1,z2,z3]
            · exact HDN.out.2
        have e1:¬ op=1:=fun q=>h12 (.inl q)
        have e2:¬ op=2:=fun q=>h12 (.inr q)
        clear h12
        by_cases h3:op=3
        · subst h3
          clear e1 e2 hop
          have hkc:kc=0:=HKC.out.symm
          subst hkc
          clear HKC
          have HIN:=Hi (fun (W:World) (hb:Below WI.heap.size WI W)=>zgD A1 c1 ins W hil (HRI2.out.mono SgC.mono (S':=Old W) (fun g q=>by have q':g<E:=q;exact Nat.lt_of_lt_of_le q' (Nat.le_trans hEI hb.size)) (zab hb fun g q=>by have q':g<E:=q;omega)))
          have HNL:=Hi (fun s (q:s∈ins)=>show s.nm.length≤maxLen by
            obtain ⟨cs,hc⟩:=zdi HRI2.out s q
            exact hc.2.1)
          have HML:=Hi (show (ins.map (·.nm)).length≤maxLen by rw [List.length_map];unfold maxLen;omega)
          have HIX:=Hi (fun (W:World) A5 c5 (h:Rw NmC 1 W (Old W) A5 (ins.map (·.nm)).length (ins.map (·.nm)))=>zeJ A5 c5 (ins.map (·.nm)) nm W HML.out h)
          obtain ⟨z,hz⟩:∃ z,idxG nm (ins.map (·.nm)) 0=z:=⟨_,rfl⟩
          simp only [hz,List.length_map] at HIX
          have HIY:=Hi HIX
          have HCX:=Hi (fun (W:World) (hb:Below WI.heap.size WI W)=>show W.cell? ⟨w.heap.size,0,none⟩=some (.slice A1 ins.length c1)∧W.cell? ⟨w.heap.size+1,2,none⟩=some (.string ⟨nm.toArray⟩) from
            ⟨(World.cell?_of_block (hb.block _ hl0)).trans q0,(World.cell?_of_block (hb.block _ hl1)).trans r2⟩)
          clear hz HIX
          go_upto_region 10 with fail
          go_cut [44] (fun _ wz=>EtZ w W0 E (.slice A1 ins.length c1) (.slice A2 rls.length c2) v3 v4 (Obj.cells #[.int .i64 3,.int .i64 n,.string ⟨nm.toArray⟩,.slice A ks.length c] 48) (Obj.cells #[.slice Option.none 0 0,.slice Option.none 0 0,.slice Option.none 0 0,.slice Option.none 0 0] 35) wr.heap.size wz (.slice A3 a' c3) (.slice A4 b' c4) 30 z a' b')
          case first =>
            go_region_held3 (fun w'=>w'.cell? ⟨w.heap.size,0,none⟩=some (.slice A1 ins.length c1)∧w'.cell? ⟨w.heap.size+1,2,none⟩=some (.string ⟨nm.toArray⟩)) (first | exact ⟨q0,r2⟩ | exact HCX.out _ hb5 | exact HCX.out _ (zad hb5) | exact HCX.out _ hb7 | exact HCX.out _ (zad hb7) | exact HCX.out _ (zad (Below.refl _ _)) | exact ⟨(HZ0.out.set2x hb7 30 z).1.1,(HZ0.out.set2x hb7 30 z).1.2⟩ | exact ⟨(HZ0.out.set2x (zad hb7) 30 z).1.1,(HZ0.out.set2x (zad hb7) 30 z).1.2⟩ | exact ⟨(HZ0.out.set2x hb7 30 z).2.1,(HZ0.out.set2x hb7 30 z).2.2⟩ | go_keep)
              (first
               | (first | (go_at_call 53;(first | refine (HIN.out _ (Below.refl _ _)).mono ?_ | refine (HIN.out _ (zad (Below.refl _ _))).mono ?_);rintro e5 w5 ⟨A5,c5,rfl,hc5,hm5,ho5,hb5⟩;(first | have hb5:=zcP hb5 | skip);have hs5:=hb5.size;have hrw5:=nm_src ho5 HNL.out;rw [List.length_map] at hrw5) | fail)
               | (first | (go_at_call 52;(first | refine (HIY.out.out _ _ _ (hrw5)).mono ?_ | refine (HIY.out.out _ _ _ (hrw5.mono NmC.mono (fun g q=>q) (fun _ _=>rfl))).mono ?_);rintro e7 w7 ⟨rfl,hb7'⟩;(first | have hb7':=zcP hb7' | skip);have hb7:=zac hb5 hb7' hs5;obtain ⟨-,-,⟨k0,k1⟩,⟨u0,u1,-,-⟩,-,-,-,ul⟩:=(HZ0.out.below hb7).cells) | fail))
            all_goals
              go_wp2
              go_meet
              first
                | exact (HZ0.out.below hb7).set2 30 z
                | exact (HZ0.out.below (zad hb7)).set2 30 z
                | exact ((HZ0.out.below hb7).set2 30 z).drew
          case rest =>
            rename World=>WJ
            clear HIN HNL HML HIY HCX q0 q1 q2 q3 r0 r1 r2 j0 j1 f0 f1 f2 f3 hl0 hl1 hl2 hli
            have HZ1:=Hi hcut
            have hsJ:=hcut.sz
            clear hcut
            obtain ⟨⟨q0,q1,q2,q3⟩,⟨r0,r1,r2⟩,⟨j0,j1⟩,⟨f0,f1,f2,f3⟩,hl0,hl1,hl2,hli⟩:=HZ1.out.cells
            by_cases hz:z<0
            · have HRI3:=Hi (zeJ A2 c2 rls nm WJ hrl (HRR.out.mono NmC.mono (S':=Old WJ) (fun g q=>by have q':g<E:=q;have:=HZ1.out.es.le;show g<WJ.heap.size;omega) (HZ1.out.kb.keepE HW.out hEw)))
              obtain ⟨z2,hz2⟩:∃ z,idxG nm rls 0=z:=⟨_,rfl⟩
              rw [hz2] at HRI3
              clear hz2
              go_upto_region 12 with fail
              go_wp2_with fail
              refine HRI3.out.mono ?_
              rintro e8 w8 ⟨rfl,hb8⟩
              have HZ2:=Hi ((HZ1.out.below hb8).set2 31 z2)
              obtain ⟨-,-,⟨k0',k1'⟩,⟨f0',f1',-,-⟩,-,-,-,hli'⟩:=(HZ1.out.below hb8).cells
              clear hb8 HRI3
              go_upto_region 16 with fail
              clear q0 q1 q2 q3 r0 r1 r2 j0 j1 f0 f1 f2 f3 hl0 hl1 hl2 hli k0' k1' f0' f1' hli'
              generalize (w8.setCell ⟨wr.heap.size,0,none⟩ (.int .i64 31)).setCell ⟨wr.heap.size,1,none⟩ (.int .i64 z2)=WK at *
              obtain ⟨⟨q0,q1,q2,q3⟩,⟨r0,r1,r2⟩,⟨j0,j1⟩,⟨f0,f1,f2,f3⟩,hl0,hl1,hl2,hli⟩:=HZ2.out.cells
              clear HZ0 HZ1
              obtain ⟨code,hcl,ho4⟩:=HZ2.out.es.o4
              have HOX:=Hi (ho4.alloc (Obj.cells #[.int .i64 31,.int .i64 z2] 76))
              have HSR:=Hi (zaL WK [.int .i64 31,.int .i64 z2] 76 2 1 rfl)
              have HCL:=Hi hcl
              have HM1:=Hi (show b'+1≤maxLen by unfold maxLen;omega)
              have HM2:=Hi (show (b'+1)*16≤140737488355328 by omega)
              have HBS:=Hi (show E≤(WK.alloc (Obj.cells #[.int .i64 31,.int .i64 z2] 76)).heap.size by rw [World.size_alloc];have:=HZ2.out.es.le;omega)
              clear ho4 hcl
              go_upto_region 17 with (at_builtin;refine zaj (o:=⟨some 76,_,_,_,_,_⟩) (w:=WK.alloc (Obj.cells #[.int .i64 31,.int .i64 z2] 76)) _ _ 33 rfl rfl Tryz.underlying33 HTI.out.1 HTI.out.2.1 HTI.out.2.2.1 HTI.out.2.2.2 rfl (by decide) rfl HOX.out rfl HSR.out (zcr ⟨31,z2⟩) HM1.out HM2.out HBS.out ?_;intro v6 w6 hown6 hg6 hv6;have hP:=HZ2.out.push4 HCL.out ⟨31,z2⟩ hown6 hg6 hv6;have f6:=Lib.frozen_of_heap hP.1 3;have c6:w6.cell? ⟨w.heap.size,3,none⟩=some (.slice A4 b' c4):=(by have h6:=hP.1;simp [World.cell?,h6]);have l6:=(Array.getElem?_eq_some_iff.1 hP.1).1;have HP6:=Hi hP;obtain ⟨A6,k6,hv6e,-,-⟩:=zag hown6;clear hown6 hg6 hv6 hP;subst hv6e)
              clear q0 q1 q2 q3 r0 r1 r2 j0 j1 f0 f1 f2 f3 hl0 hl1 hl2 hli c6 f6 l6
              have HZ7:=Hi HP6.out.2
              clear HP6
              generalize w6.setCell ⟨w.heap.size,3,none⟩ (.slice A6 (b'+1) k6)=W7 at *
              obtain ⟨⟨q0,q1,q2,q3⟩,-,-,-,hl0,-,hl2,-⟩:=HZ7.out.cells
              have HDN:=Hi HZ7.out.done
              obtain ⟨e20,e21,e22,e23⟩:=zaS HZ7.out.x2
              have g0:=Lib.frozen_of_heap HZ7.out.x2 0
              have g1:=Lib.frozen_of_heap HZ7.out.x2 1
              have g2:=Lib.frozen_of_heap HZ7.out.x2 2
              have g3:=Lib.frozen_of_heap HZ7.out.x2 3
              have hh8:=HDN.out.1
              have z0:((((W7.setCell ⟨w.heap.size+2,0,none⟩ (.slice A1 ins.length c1)).setCell ⟨w.heap.size+2,1,none⟩ (.slice A2 rls.length c2)).setCell ⟨w.heap.size+2,2,none⟩ (.slice A3 a' c3)).setCell ⟨w.heap.size+2,3,none⟩ (.slice A6 (b'+1) k6)).cell? ⟨w.heap.size+2,0,none⟩=some (.slice A1 ins.length c1):=by simp [World.cell?,hh8]
              have z1:((((W7.setCell ⟨w.heap.size+2,0,none⟩ (.slice A1 ins.length c1)).setCell ⟨w.heap.size+2,1,none⟩ (.slice A2 rls.length c2)).setCell ⟨w.heap.size+2,2,none⟩ (.slice A3 a' c3)).setCell ⟨w.heap.size+2,3,none⟩ (.slice A6 (b'+1) k6)).cell? ⟨w.heap.size+2,1,none⟩=some (.slice A2 rls.length c2):=by simp [World.cell?,hh8]
              have z2:((((W7.setCell ⟨w.heap.size+2,0,none⟩ (.slice A1 ins.length c1)).setCell ⟨w.heap.size+2,1,none⟩ (.slice A2 rls.length c2)).setCell ⟨w.heap.size+2,2,none⟩ (.slice A3 a' c3)).setCell ⟨w.heap.size+2,3,none⟩ (.slice A6 (b'+1) k6)).cell? ⟨w.heap.size+2,2,none⟩=some (.slice A3 a' c3):=by simp [World.cell?,hh8]
              have z3:((((W7.setCell ⟨w.heap.size+2,0,none⟩ (.slice A1 ins.length c1)).setCell ⟨w.heap.size+2,1,none⟩ (.slice A2 rls.length c2)).setCell ⟨w.heap.size+2,2,none⟩ (.slice A3 a' c3)).setCell ⟨w.heap.size+2,3,none⟩ (.slice A6 (b'+1) k6)).cell? ⟨w.heap.size+2,3,none⟩=some (.slice A6 (b'+1) k6):=by simp [World.cell?,hh8]
              clear hh8 HZ7
              go_wp2
              refine bodyPost_ret (v := .agg #[(.slice A1 ins.length c1),(.slice A2 rls.length c2),(.slice A3 a' c3),.slice A6 (b'+1) k6]) ?_ rfl ?_
              · simp [results,Tryz.results27,go_sem,z0,z1,z2,z3]
              · exact HDN.out.2
            · go_upto_region 16 with fail
              clear HZ0
              obtain ⟨code,hcl,ho4⟩:=HZ1.out.es.o4
              have HOX:=Hi (ho4.alloc (Obj.cells #[.int .i64 30,.int .i64 z] 76))
              have HSR:=Hi (zaL WJ [.int .i64 30,.int .i64 z] 76 2 1 rfl)
              have HCL:=Hi hcl
              have HM1:=Hi (show b'+1≤maxLen by unfold maxLen;omega)
              have HM2:=Hi (show (b'+1)*16≤140737488355328 by omega)
              have HBS:=Hi (show E≤(WJ.alloc (Obj.cells #[.int .i64 30,.int .i64 z] 76)).heap.size by rw [World.size_alloc];have:=HZ1.out.es.le;omega)
              clear ho4 hcl
              go_upto_region 17 with (at_builtin;refine zaj (o:=⟨some 76,_,_,_,_,_⟩) (w:=WJ.alloc (Obj.cells #[.int .i64 30,.int .i64 z] 76)) _ _ 33 rfl rfl Tryz.underlying33 HTI.out.1 HTI.out.2.1 HTI.out.2.2.1 HTI.out.2.2.2 rfl (by decide) rfl HOX.out rfl HSR.out (zcr ⟨30,z⟩) HM1.out HM2.out HBS.out ?_;intro v6 w6 hown6 hg6 hv6;have hP:=HZ1.out.push4 HCL.out ⟨30,z⟩ hown6 hg6 hv6;have f6:=Lib.frozen_of_heap hP.1 3;have c6:w6.cell? ⟨w.heap.size,3,none⟩=some (.slice A4 b' c4):=(by have h6:=hP.1;simp [World.cell?,h6]);have l6:=(Array.getElem?_eq_some_iff.1 hP.1).1;have HP6:=Hi hP;obtain ⟨A6,k6,hv6e,-,-⟩:=zag hown6;clear hown6 hg6 hv6 hP;subst hv6e)
              clear q0 q1 q2 q3 r0 r1 r2 j0 j1 f0 f1 f2 f3 hl0 hl1 hl2 hli c6 f6 l6
              have HZ7:=Hi HP6.out.2
              clear HP6
              generalize w6.setCell ⟨w.heap.size,3,none⟩ (.slice A6 (b'+1) k6)=W7 at *
              obtain ⟨⟨q0,q1,q2,q3⟩,-,-,-,hl0,-,hl2,-⟩:=HZ7.out.cells
              have HDN:=Hi HZ7.out.done
              obtain ⟨e20,e21,e22,e23⟩:=zaS HZ7.out.x2
              have g0:=Lib.frozen_of_heap HZ7.out.x2 0
              have g1:=Lib.frozen_of_heap HZ7.out.x2 1
              have g2:=Lib.frozen_of_heap HZ7.out.x2 2
              have g3:=Lib.frozen_of_heap HZ7.out.x2 3
              have hh8:=HDN.out.1
              have z0:((((W7.setCell ⟨w.heap.size+2,0,none⟩ (.slice A1 ins.length c1)).setCell ⟨w.heap.size+2,1,none⟩ (.slice A2 rls.length c2)).setCell ⟨w.heap.size+2,2,none⟩ (.slice A3 a' c3)).setCell ⟨w.heap.size+2,3,none⟩ (.slice A6 (b'+1) k6)).cell? ⟨w.heap.size+2,0,none⟩=some (.slice A1 ins.length c1):=by simp [World.cell?,hh8]
              have z1:((((W7.setCell ⟨w.heap.size+2,0,none⟩ (.slice A1 ins.length c1)).setCell ⟨w.heap.size+2,1,none⟩ (.slice A2 rls.length c2)).setCell ⟨w.heap.size+2,2,none⟩ (.slice A3 a' c3)).setCell ⟨w.heap.size+2,3,none⟩ (.slice A6 (b'+1) k6)).cell? ⟨w.heap.size+2,1,none⟩=some (.slice A2 rls.length c2):=by simp [World.cell?,hh8]
              have z2:((((W7.setCell ⟨w.heap.size+2,0,none⟩ (.slice A1 ins.length c1)).setCell ⟨w.heap.size+2,1,none⟩ (.slice A2 rls.length c2)).setCell ⟨w.heap.size+2,2,none⟩ (.slice A3 a' c3)).setCell ⟨w.heap.size+2,3,none⟩ (.slice A6 (b'+1) k6)).cell? ⟨w.heap.size+2,2,none⟩=some (.slice A3 a' c3):=by simp [World.cell?,hh8]
              have z3:((((W7.setCell ⟨w.heap.size+2,0,none⟩ (.slice A1 ins.length c1)).setCell ⟨w.heap.size+2,1,none⟩ (.slice A2 rls.length c2)).setCell ⟨w.heap.size+2,2,none⟩ (.slice A3 a' c3)).setCell ⟨w.heap.size+2,3,none⟩ (.slice A6 (b'+1) k6)).cell? ⟨w.heap.size+2,3,none⟩=some (.slice A6 (b'+1) k6):=by simp [World.cell?,hh8]
              clear hh8 HZ7
              go_wp2
              refine bodyPost_ret (v := .agg #[(.slice A1 ins.length c1),(.slice A2 rls.length c2),(.slice A3 a' c3),.slice A6 (b'+1) k6]) ?_ rfl ?_
              · simp [results,Tryz.results27,go_sem,z0,z1,z2,z3]
              · exact HDN.out.2
        have b3:(op == 3)=false:=by simpa using h3
        have b1:(op == 1)=false:=by simpa using e1
        have b2:(op == 2)=false:=by simpa using e2
        clear h3
        cases hkb:zaG op with
        | false =>
          have hkc:kc=0:=by rw [← HKC.out,hkb];rfl
          subst hkc;simp only [hkb] at HHC;clear hkb HKC;go_upto_region 13 with fail
          go_upto_region 16 with (refine (HHC.out _).mono ?_;rintro e8 w8 ⟨rfl,rfl⟩)
          obtain ⟨code,hcl,ho4⟩:=HZ0.out.es.o4;have HOX:=Hi (ho4.alloc (Obj.cells #[.int .i64 op,.int .i64 0] 76));have HSR:=Hi (zaL WI [.int .i64 op,.int .i64 0] 76 2 1 rfl);have HCL:=Hi hcl;have HM1:=Hi (show b'+1≤maxLen by unfold maxLen;omega);have HM2:=Hi (show (b'+1)*16≤140737488355328 by omega);have HBS:=Hi (show E≤(WI.alloc (Obj.cells #[.int .i64 op,.int .i64 0] 76)).heap.size by rw [World.size_alloc];have:=HZ0.out.es.le;omega);clear ho4 hcl;go_upto_region 17 with (at_builtin;refine zaj (o:=⟨some 76,_,_,_,_,_⟩) (w:=WI.alloc (Obj.cells #[.int .i64 op,.int .i64 0] 76)) _ _ 33 rfl rfl Tryz.underlying33 HTI.out.1 HTI.out.2.1 HTI.out.2.2.1 HTI.out.2.2.2 rfl (by decide) rfl HOX.out rfl HSR.out (zcr ⟨op,0⟩) HM1.out HM2.out HBS.out ?_;intro v6 w6 hown6 hg6 hv6;have hP:=HZ0.out.push4 HCL.out ⟨op,0⟩ hown6 hg6 hv6;have f6:=Lib.frozen_of_heap hP.1 3;have c6:w6.cell? ⟨w.heap.size,3,none⟩=some (.slice A4 b' c4):=(by have h6:=hP.1;simp [World.cell?,h6]);have l6:=(Array.getElem?_eq_some_iff.1 hP.1).1;have HP6:=Hi hP;obtain ⟨A6,k6,hv6e,-,-⟩:=zag hown6;clear hown6 hg6 hv6 hP;subst hv6e)
          clear q0 q1 q2 q3 r0 r1 r2 j0 j1 f0 f1 f2 f3 hl0 hl1 hl2 hli c6 f6 l6;have HZ7:=Hi HP6.out.2;clear HP6;generalize w6.setCell ⟨w.heap.size,3,none⟩ (.slice A6 (b'+1) k6)=W7 at *;obtain ⟨⟨q0,q1,q2,q3⟩,-,-,-,hl0,-,hl2,-⟩:=HZ7.out.cells;have HDN:=Hi HZ7.out.done;obtain ⟨e20,e21,e22,e23⟩:=zaS HZ7.out.x2;have g0:=Lib.frozen_of_heap HZ7.out.x2 0;have g1:=Lib.frozen_of_heap HZ7.out.x2 1;have g2:=Lib.frozen_of_heap HZ7.out.x2 2;have g3:=Lib.frozen_of_heap HZ7.out.x2 3;have hh8:=HDN.out.1;have z0:((((W7.setCell ⟨w.heap.size+2,0,none⟩ (.slice A1 ins.length c1)).setCell ⟨w.heap.size+2,1,none⟩ (.slice A2 rls.length c2)).setCell ⟨w.heap.size+2,2,none⟩ (.slice A3 a' c3)).setCell ⟨w.heap.size+2,3,none⟩ (.slice A6 (b'+1) k6)).cell? ⟨w.heap.size+2,0,none⟩=some (.slice A1 ins.length c1):=by simp [World.cell?,hh8]
          have z1:((((W7.setCell ⟨w.heap.size+2,0,none⟩ (.slice A1 ins.length c1)).setCell ⟨w.heap.size+2,1,none⟩ (.slice A2 rls.length c2)).setCell ⟨w.heap.size+2,2,none⟩ (.slice A3 a' c3)).setCell ⟨w.heap.size+2,3,none⟩ (.slice A6 (b'+1) k6)).cell? ⟨w.heap.size+2,1,none⟩=some (.slice A2 rls.length c2):=by simp [World.cell?,hh8]
          have z2:((((W7.setCell ⟨w.heap.size+2,0,none⟩ (.slice A1 ins.length c1)).setCell ⟨w.heap.size+2,1,none⟩ (.slice A2 rls.length c2)).setCell ⟨w.heap.size+2,2,none⟩ (.slice A3 a' c3)).setCell ⟨w.heap.size+2,3,none⟩ (.slice A6 (b'+1) k6)).cell? ⟨w.heap.size+2,2,none⟩=some (.slice A3 a' c3):=by simp [World.cell?,hh8]
          have z3:((((W7.setCell ⟨w.heap.size+2,0,none⟩ (.slice A1 ins.length c1)).setCell ⟨w.heap.size+2,1,none⟩ (.slice A2 rls.length c2)).setCell ⟨w.heap.size+2,2,none⟩ (.slice A3 a' c3)).setCell ⟨w.heap.size+2,3,none⟩ (.slice A6 (b'+1) k6)).cell? ⟨w.heap.size+2,3,none⟩=some (.slice A6 (b'+1) k6):=by simp [World.cell?,hh8]
          clear hh8 HZ7;go_wp2;refine bodyPost_ret (v := .agg #[(.slice A1 ins.length c1),(.slice A2 rls.length c2),(.slice A3 a' c3),.slice A6 (b'+1) k6]) ?_ rfl ?_
          · simp [results,Tryz.results27,go_sem,z0,z1,z2,z3]
          · exact HDN.out.2
        | true =>
          have hkc:kc=1:=by rw [← HKC.out,hkb];rfl
          subst hkc;simp only [hkb] at HHC;clear hkb HKC;obtain ⟨cells,hcl3,ho3⟩:=HZ0.out.es.o3;have HCL3:=Hi hcl3;have HZ1:=Hi (HZ0.out.set1 (a':Int));have HOX3:=Hi ho3;clear ho3 hcl3;go_upto_region 13 with fail
          go_upto_region 15 with (refine (HHC.out _).mono ?_;rintro e8 w8 ⟨rfl,rfl⟩)
          clear q0 q1 q2 q3 r0 r1 r2 j0 j1 f0 f1 f2 f3 hl0 hl1 hl2 hli HOX3 HCL3;generalize hWJ:WI.setCell ⟨wr.heap.size,1,none⟩ (.int .i64 (a':Int))=WJ at *;clear hWJ HZ0;obtain ⟨⟨q0,q1,q2,q3⟩,⟨r0,r1,r2⟩,⟨j0,j1⟩,⟨f0,f1,f2,f3⟩,hl0,hl1,hl2,hli⟩:=HZ1.out.cells;obtain ⟨cells,hcl3,ho3⟩:=HZ1.out.es.o3;have HCL3:=Hi hcl3;have HOX3:=Hi (ho3.alloc (Obj.cells #[.int .i64 op,.int .i64 n] 89));have HSR3:=Hi (zaL WJ [.int .i64 op,.int .i64 n] 89 2 1 rfl);have HM31:=Hi (show a'+1≤maxLen by unfold maxLen;omega);have HM32:=Hi (show (a'+1)*16≤140737488355328 by omega);have HBS3:=Hi (show E≤(WJ.alloc (Obj.cells #[.int .i64 op,.int .i64 n] 89)).heap.size by rw [World.size_alloc];have:=HZ1.out.es.le;omega);clear ho3 hcl3;go_upto_region 16 with (at_builtin;refine zaj (o:=⟨some 70,_,_,_,_,_⟩) (w:=WJ.alloc (Obj.cells #[.int .i64 op,.int .i64 n] 89)) _ _ 32 rfl rfl Tryz.underlying32 HTC.out.1 HTC.out.2.1 HTC.out.2.2.1 HTC.out.2.2.2 rfl (by decide) rfl HOX3.out rfl HSR3.out (zkQ ⟨op,n⟩) HM31.out HM32.out HBS3.out ?_;intro v6 w6 hown6 hg6 hv6;have hP:=HZ1.out.push3 HCL3.out ⟨op,n⟩ hown6 hg6 hv6;have f6:=Lib.frozen_of_heap hP.1 2;have c6:w6.cell? ⟨w.heap.size,2,none⟩=some (.slice A3 a' c3):=(by have h6:=hP.1;simp [World.cell?,h6]);have l6:=(Array.getElem?_eq_some_iff.1 hP.1).1;have HP6:=Hi hP;obtain ⟨A5,k5,hv6e,-,-⟩:=zag hown6;clear hown6 hg6 hv6 hP;subst hv6e)
          clear q0 q1 q2 q3 r0 r1 r2 j0 j1 f0 f1 f2 f3 hl0 hl1 hl2 hli c6 f6 l6;have HZ2:=Hi HP6.out.2;clear HP6;generalize w6.setCell ⟨w.heap.size,2,none⟩ (.slice A5 (a'+1) k5)=WK at *;obtain ⟨⟨q0,q1,q2,q3⟩,⟨r0,r1,r2⟩,⟨j0,j1⟩,⟨f0,f1,f2,f3⟩,hl0,hl1,hl2,hli⟩:=HZ2.out.cells;clear HZ1 HOX3 HCL3 HSR3;obtain ⟨code,hcl,ho4⟩:=HZ2.out.es.o4;have HOX:=Hi (ho4.alloc (Obj.cells #[.int .i64 op,.int .i64 (a':Int)] 76));have HSR:=Hi (zaL WK [.int .i64 op,.int .i64 (a':Int)] 76 2 1 rfl);have HCL:=Hi hcl;have HM1:=Hi (show b'+1≤maxLen by unfold maxLen;omega);have HM2:=Hi (show (b'+1)*16≤140737488355328 by omega);have HBS:=Hi (show E≤(WK.alloc (Obj.cells #[.int .i64 op,.int .i64 (a':Int)] 76)).heap.size by rw [World.size_alloc];have:=HZ2.out.es.le;omega);clear ho4 hcl;go_upto_region 17 with (at_builtin;refine zaj (o:=⟨some 76,_,_,_,_,_⟩) (w:=WK.alloc (Obj.cells #[.int .i64 op,.int .i64 (a':Int)] 76)) _ _ 33 rfl rfl Tryz.underlying33 HTI.out.1 HTI.out.2.1 HTI.out.2.2.1 HTI.out.2.2.2 rfl (by decide) rfl HOX.out rfl HSR.out (zcr ⟨op,(a':Int)⟩) HM1.out HM2.out HBS.out ?_;intro v6 w9 hown6 hg6 hv6;have hP:=HZ2.out.push4 HCL.out ⟨op,(a':Int)⟩ hown6 hg6 hv6;have f6:=Lib.frozen_of_heap hP.1 3;have c6:w9.cell? ⟨w.heap.size,3,none⟩=some (.slice A4 b' c4):=(by have h6:=hP.1;simp [World.cell?,h6]);have l6:=(Array.getElem?_eq_some_iff.1 hP.1).1;have HP9:=Hi hP;obtain ⟨A6,k6,hv6e,-,-⟩:=zag hown6;clear hown6 hg6 hv6 hP;subst hv6e)
          clear q0 q1 q2 q3 r0 r1 r2 j0 j1 f0 f1 f2 f3 hl0 hl1 hl2 hli c6 f6 l6;have HZ7:=Hi HP9.out.2;clear HP9;generalize w9.setCell ⟨w.heap.size,3,none⟩ (.slice A6 (b'+1) k6)=W7 at *;obtain ⟨⟨q0,q1,q2,q3⟩,-,-,-,hl0,-,hl2,-⟩:=HZ7.out.cells;have HDN:=Hi HZ7.out.done;obtain ⟨e20,e21,e22,e23⟩:=zaS HZ7.out.x2;have g0:=Lib.frozen_of_heap HZ7.out.x2 0;have g1:=Lib.frozen_of_heap HZ7.out.x2 1;have g2:=Lib.frozen_of_heap HZ7.out.x2 2;have g3:=Lib.frozen_of_heap HZ7.out.x2 3;have hh8:=HDN.out.1;have z0:((((W7.setCell ⟨w.heap.size+2,0,none⟩ (.slice A1 ins.length c1)).setCell ⟨w.heap.size+2,1,none⟩ (.slice A2 rls.length c2)).setCell ⟨w.heap.size+2,2,none⟩ (.slice A5 (a'+1) k5)).setCell ⟨w.heap.size+2,3,none⟩ (.slice A6 (b'+1) k6)).cell? ⟨w.heap.size+2,0,none⟩=some (.slice A1 ins.length c1):=by simp [World.cell?,hh8]
          have z1:((((W7.setCell ⟨w.heap.size+2,0,none⟩ (.slice A1 ins.length c1)).setCell ⟨w.heap.size+2,1,none⟩ (.slice A2 rls.length c2)).setCell ⟨w.heap.size+2,2,none⟩ (.slice A5 (a'+1) k5)).setCell ⟨w.heap.size+2,3,none⟩ (.slice A6 (b'+1) k6)).cell? ⟨w.heap.size+2,1,none⟩=some (.slice A2 rls.length c2):=by simp [World.cell?,hh8]
          have z2:((((W7.setCell ⟨w.heap.size+2,0,none⟩ (.slice A1 ins.length c1)).setCell ⟨w.heap.size+2,1,none⟩ (.slice A2 rls.length c2)).setCell ⟨w.heap.size+2,2,none⟩ (.slice A5 (a'+1) k5)).setCell ⟨w.heap.size+2,3,none⟩ (.slice A6 (b'+1) k6)).cell? ⟨w.heap.size+2,2,none⟩=some (.slice A5 (a'+1) k5):=by simp [World.cell?,hh8]
          have z3:((((W7.setCell ⟨w.heap.size+2,0,none⟩ (.slice A1 ins.length c1)).setCell ⟨w.heap.size+2,1,none⟩ (.slice A2 rls.length c2)).setCell ⟨w.heap.size+2,2,none⟩ (.slice A5 (a'+1) k5)).setCell ⟨w.heap.size+2,3,none⟩ (.slice A6 (b'+1) k6)).cell? ⟨w.heap.size+2,3,none⟩=some (.slice A6 (b'+1) k6):=by simp [World.cell?,hh8]
          clear hh8 HZ7;go_wp2;refine bodyPost_ret (v := .agg #[(.slice A1 ins.length c1),(.slice A2 rls.length c2),(.slice A5 (a'+1) k5),.slice A6 (b'+1) k6]) ?_ rfl ?_
          · simp [results,Tryz.results27,go_sem,z0,z1,z2,z3]
          · exact HDN.out.2
      have hr2:=HR.out.mono ExV.mono (fun g q=>q) HBE.out;obtain ⟨bb,o,op2,n2,nm2,A5,c5,ys,hA,hSb,hky,hc2,hm2,hp2,hr3,hxb⟩:=exAt hr2 hlk;subst hA;obtain ⟨y0,y1,y2,y3⟩:=hxb
      have hget:ks[k] = .mk op2 n2 nm2 ys:=by
        rw [List.getElem?_eq_getElem hlk] at hky;injection hky
      rw [List.drop_eq_getElem_cons hlk,hget] at ha' hb';have ha2:a'+((cntG d (.mk op2 n2 nm2 ys)).2+(cntL (cntG d) (ks.drop (k+1))).2)=Ta:=ha';have hb2:b'+((cntG d (.mk op2 n2 nm2 ys)).1+(cntL (cntG d) (ks.drop (k+1))).1)=Tb:=hb';have hokk:okG d (.mk op2 n2 nm2 ys):=by rw [← hget];exact HOK.out.2 _ (List.getElem_mem hlk)
      obtain ⟨d',rfl⟩:∃ d',d=d'+1:=by
        cases d with
        | zero=>exact hokk.elim
        | succ d=>exact ⟨d,rfl⟩
      have hys:ys.length≤9223372036854775807:=by unfold maxLen at hm2;omega
      have hbx:=zaa wr (Obj.cells #[.int .i64 op2,.int .i64 n2,.string ⟨nm2.toArray⟩,.slice A5 ys.length c5] 48);have hkE:=zab (S:=fun g=>g<E) hbx (fun g q=>by have q':g<E:=q;omega)
      have C1:=HIH.out d' (by omega) op2 n2 nm2 A5 c5 ys (wr.alloc (Obj.cells #[.int .i64 op2,.int .i64 n2,.string ⟨nm2.toArray⟩,.slice A5 ys.length c5] 48)) v3' v4' a' b' hokk hp2 hys (hr3.mono ExV.mono (fun g q=>q) hkE) (HES.out.below hbx)
        ((HRI.out.mono SgC.mono (fun g q=>q) HBE.out).mono SgC.mono (fun g q=>q) hkE) ((HRR.out.mono NmC.mono (fun g q=>q) HBE.out).mono NmC.mono (fun g q=>q) hkE) (by omega) (by omega)
      unfold exV at C1;obtain ⟨cn,hcn⟩:∃ cn,cntG (d'+1) (.mk op2 n2 nm2 ys)=cn:=⟨_,rfl⟩;rw [hcn] at C1 ha2 hb2;have HC1:=Hi C1;have HA2:=Hi ha2;have HB2:=Hi hb2;have HBX:=Hi hbx;have hbk:bb<wr.heap.size:=by have q:bb<E:=hSb;omega
      have HSA:=Hi (World.size_alloc wr (Obj.cells #[.int .i64 op2,.int .i64 n2,.string ⟨nm2.toArray⟩,.slice A5 ys.length c5] 48));clear hr2 hr3 C1 ha2 hb2 hbx hkE hky hget hokk hp2 hc2 ha' hb' hSb hcn HTA HTB r0 r1 r2;unfold maxLen at hm2;go_wp2_with fail
      refine HC1.out.mono ?_
      rintro e w5 ⟨v35,v45,rfl,hes5,hkb5,hf35,hf45⟩
      obtain ⟨A35,c35,hv35,-,-⟩:∃ A c,v35 = .slice A (a'+cn.2) c∧a'+cn.2≤c∧c≤maxLen:=by
        obtain ⟨_,-,o⟩:=hes5.o3;exact zag o
      obtain ⟨A45,c45,hv45,-,-⟩:∃ A c,v45 = .slice A (b'+cn.1) c∧b'+cn.1≤c∧c≤maxLen:=by
        obtain ⟨_,-,o⟩:=hes5.o4;exact zag o
      subst hv35;subst hv45;have hs5:=hkb5.size;have hsa:=HSA.out
      have hown:∀ i,i<3→w5.heap[w.heap.size+i]? = wr.heap[w.heap.size+i]? := fun i hi=>(hkb5.block _ (by omega) (fun q=>by
        rcases q with q | q | q
        · omega
        · exact (HNB.out i hi).1 q
        · exact (HNB.out i hi).2 q)).trans (HBX.out.block _ (by omega))
      have h50:w5.heap[w.heap.size]? = some (.cells #[(.slice A1 ins.length c1),(.slice A2 rls.length c2),v3',v4'] 35 (0,0)):=(hown 0 (by omega)).trans HX0.out;have h51:=(hown 1 (by omega)).trans HX1.out;have h52:=(hown 2 (by omega)).trans HX2.out;obtain ⟨e50,e51,e52,e53⟩:=zaS h50;have f0:=Lib.frozen_of_heap h50 0;have f1:=Lib.frozen_of_heap h50 1;have f2:=Lib.frozen_of_heap h50 2;have f3:=Lib.frozen_of_heap h50 3;have hl5:w.heap.size<w5.heap.size:=by omega
      have HW5:=Hi (show W0.heap.size≤w5.heap.size by omega);have HSF:=Hi (zdW w5 w.heap.size (.slice A1 ins.length c1) (.slice A2 rls.length c2) (.slice A35 (a'+cn.2) c35) (.slice A45 (b'+cn.1) c45));have HF5:=Hi (zbf h50 (.slice A1 ins.length c1) (.slice A2 rls.length c2) (.slice A35 (a'+cn.2) c35) (.slice A45 (b'+cn.1) c45));have HZS:=Hi (zch w5 w.heap.size (.slice A1 ins.length c1) (.slice A2 rls.length c2) (.slice A35 (a'+cn.2) c35) (.slice A45 (b'+cn.1) c45));have HG3:=Hi (Fresh.trans HF3.out (hf35.pre (by omega)) hsw);have HG4:=Hi (Fresh.trans HF4.out (hf45.pre (by omega)) hsw);have hnb3:=HG3.out.ne (k:=w.heap.size) (by omega) (fun q=>by have:=(HW.out.lt3 q).2;omega);have hnb4:=HG4.out.ne (k:=w.heap.size) (by omega) (fun q=>by have:=(HW.out.lt4 q).2;omega);have HE5:=Hi (hes5.keep (w':=((((w5.setCell ⟨w.heap.size,0,none⟩ (.slice A1 ins.length c1)).setCell ⟨w.heap.size,1,none⟩ (.slice A2 rls.length c2)).setCell ⟨w.heap.size,2,none⟩ (.slice A35 (a'+cn.2) c35)).setCell ⟨w.heap.size,3,none⟩ (.slice A45 (b'+cn.1) c45))) (by rw [HZS.out];exact Nat.le_refl _) (fun g e=>HSF.out g (fun q=>hnb3 (by rw [← q];exact e))) (fun g e=>HSF.out g (fun q=>hnb4 (by rw [← q];exact e))));have HK5:=Hi (zeV ((HKB.out.trans (KB.of_below HBX.out)).trans (hkb5.mono (T:=OwnS w.heap.size v3 v4) (fun g _ q=>OwnS.fresh HF3.out HF4.out (by omega) (by omega) q))) w.heap.size (.slice A1 ins.length c1) (.slice A2 rls.length c2) (.slice A35 (a'+cn.2) c35) (.slice A45 (b'+cn.1) c45) (.inl (Nat.le_refl _)));have H51:=Hi ((HSF.out (w.heap.size+1) (by omega)).trans h51);have H52:=Hi ((HSF.out (w.heap.size+2) (by omega)).trans h52);clear hown h50 h51 h52 hes5 hkb5 hf35 hf45 hsa hnb3 hnb4;go_wp2;go_roundg (ks.length-k)
      case measure=>omega
      case rel=>exact ⟨k+1,(.slice A35 (a'+cn.2) c35),(.slice A45 (b'+cn.1) c45),_,_,by omega,by omega,by go_num,by rw [Nat.add_assoc];exact HA2.out,by rw [Nat.add_assoc];exact HB2.out,HF5.out,H51.out,H52.out,HE5.out,HK5.out,HG3.out,HG4.out,by rw [HZS.out];exact HW5.out⟩
end Go.Proofs.YtcikenlflcofbaaGreatDoor
