/-
 The communication before the first step.
-/
import Derived.Test.YtjkimieapfbhbaaGreatDoorOe
import Derived.Test.YtjkimieapfbhbaaGreatDoorKYn
set_option maxRecDepth 100000
set_option maxHeartbeats 64000000
open Go.Value renaming int → d, slice → l, bool → C, string → Q, agg → U, ownBlock → jg
open Go.IntKind renaming i64 → f
open Option renaming none → s
open Go.Obj renaming cells → E
open List renaming setIfInBounds_toArray → G, set_cons_zero → J, set_cons_succ → M, mem_of_getElem? → V, getElem?_append_left → ja, getElem?_append_right → jb, mem_cons → jk, not_mem_nil → jl
open Go.Act renaming put → O
open Go.Proofs.YtjkimieapfbhbaaGreatDoor.KB renaming setAt → P
open And renaming intro → X
open Nat renaming le_refl → Y, lt_of_lt_of_le → jd, sub_self → je, zero_le → ji, le_trans → jj
open Go.World renaming cell?_of_block → jc, frozen?_of_block → jf, ownsRow_nil → jh
namespace Go.Proofs.YtjkimieapfbhbaaGreatDoor
open Go.RowKit
def pubG (L:List PubE) (rev:Int) (n:Nat):PbM:=match L[n]? with
 | some e=>PbM.new (n:Int) e.first e.max rev
 | Option.none=>PbM.new (n:Int) 1 1 rev
def inD (TB:List (List ByteArray × List (Nat × Nat))) (i k:Nat):Nat:=match TB[i]? with
 | some t=>(match t.2[k]? with
   | some y=>y.1
   | Option.none=>0)
 | Option.none=>0
theorem LstF.snoc {α:Type} {R:World→(Nat→Prop)→List Value→α→Prop} {t:TypeId} {size base n:Nat} {w':World} {S':Nat→Prop} {v':Value} {F:Nat→α} {css:List (List Value)} {us:List Value} (h1:w'.ownsRow base t size v' (n+1) (css.flatten++us)) (h2:css.length=n)
 (h3:∀ (k:Nat) (cs:List Value),css[k]? = some cs→cs.length=size∧R w' S' cs (F k)) (hus:us.length=size) (hx:R w' S' us (F n)):LstF R t size base w' S' v' (n+1) F:=by
 refine ⟨css++[us],by simpa using h1,by simp [h2],fun j cs hj => ?_⟩
 rcases Nat.lt_or_ge j css.length with hl | hl
 · rw [ja hl] at hj
   exact h3 j cs hj
 · rw [jb hl] at hj
   have hl2:=(List.getElem?_eq_some_iff.1 hj).1
   simp at hl2
   have:j=n:=by omega
   subst this
   rw [h2,je] at hj
   simp at hj
   subst hj
   exact ⟨hus,hx⟩
theorem pbC_new {w:World} {S:Nat→Prop} (pub first max rev:Int):PbC w S ((PbM.new pub first max rev).cells s 0) (PbM.new pub first max rev):=⟨s,0,rfl,⟨Y _,by unfold maxLen;omega⟩,Rw.nil⟩
theorem zmu {w:World} {S:Nat→Prop} (pub rev:Int):SbC w S ((SbM.new pub rev).cells s 0) (SbM.new pub rev):=⟨s,0,rfl,⟨Y _,by unfold maxLen;omega⟩,Rw.nil⟩
structure NewP (w:World) (base:Nat) (vP:Value) (n:Nat) (L:List PubE) (rev:Int):Prop where
 ex:∃ css:List (List Value),w.ownsRow base 93 13 vP n css.flatten∧css.length=n∧∀ (k:Nat) (cs:List Value),css[k]? = some cs→cs=(pubG L rev k).cells s 0
theorem zkd {L:List PubE} {rev:Int} {n:Nat} {e:PubE} (h:L[n]? = some e):pubG L rev n=PbM.new (n:Int) e.first e.max rev:=by unfold pubG;rw [h]
theorem zeD (L:List PubE) (rev:Int) (n:Nat):(pubG L rev n).vals=[]:=by unfold pubG;split <;> rfl
theorem NewP.lst {w:World} {base n:Nat} {vP:Value} {L:List PubE} {rev:Int} (h:NewP w base vP n L rev) (S:Nat→Prop):LstF PbC 93 13 base w S vP n (pubG L rev):=by
 obtain ⟨css,h1,h2,h3⟩:=h.ex;refine ⟨css,h1,h2,fun k cs hc => ?_⟩
 rw [h3 k cs hc];exact ⟨rfl,s,0,by unfold PbM.cells;rw [zeD];first | done | rfl,⟨by rw [zeD];first | done | exact Y _,by unfold maxLen;omega⟩,by rw [zeD];exact Rw.nil⟩
def NewQ (w:World) (base:Nat) (v:Value) (n:Nat) (D:Nat→Nat) (rev:Int):Prop:=
 ∃ css:List (List Value),w.ownsRow base 78 9 v n css.flatten∧css.length=n∧∀ (k:Nat) (cs:List Value),css[k]? = some cs→cs=(SbM.new (D k:Int) rev).cells s 0
theorem NewQ.lst {w:World} {base n:Nat} {v:Value} {D:Nat→Nat} {rev:Int} (h:NewQ w base v n D rev) (S:Nat→Prop):LstF SbC 78 9 base w S v n (fun k=>SbM.new (D k:Int) rev):=by
 obtain ⟨css,h1,h2,h3⟩:=h;refine ⟨css,h1,h2,fun k cs hc => ?_⟩
 rw [h3 k cs hc];exact ⟨rfl,zmu _ _⟩
theorem NewQ.stay {w w':World} {base n:Nat} {v:Value} {D:Nat→Nat} {rev:Int} (h:NewQ w base v n D rev) (hk:∀ b,v.ownBlock=some b→w'.heap[b]? = w.heap[b]?):NewQ w' base v n D rev:=by
 obtain ⟨css,h1,h2,h3⟩:=h;exact ⟨css,zat h1 hk,h2,h3⟩
theorem NewQ.mono {w:World} {base base' n:Nat} {v:Value} {D:Nat→Nat} {rev:Int} (h:NewQ w base v n D rev) (hb:base'≤base):NewQ w base' v n D rev:=by
 obtain ⟨css,h1,h2,h3⟩:=h;refine ⟨css,⟨h1.1,?_⟩,h2,h3⟩
 rcases h1.2 with h | ⟨g,cap,cur,e,k,r⟩
 · exact .inl h
 · exact .inr ⟨g,cap,cur,e,jj hb k,r⟩
theorem NewQ.snoc {w:World} {base n:Nat} {v:Value} {D:Nat→Nat} {rev:Int} {css:List (List Value)} {us:List Value} (h1:w.ownsRow base 78 9 v (n+1) (css.flatten++us)) (h2:css.length=n)
 (h3:∀ (k:Nat) (cs:List Value),css[k]? = some cs→cs=(SbM.new (D k:Int) rev).cells s 0) (hu:us=(SbM.new (D n:Int) rev).cells s 0):NewQ w base v (n+1) D rev:=by
 refine ⟨css++[us],by simpa using h1,by simp [h2],fun k cs hk => ?_⟩
 rcases Nat.lt_or_ge k css.length with hl | hl
 · rw [ja hl] at hk
   exact h3 k cs hk
 · rw [jb hl] at hk
   have hl2:=(List.getElem?_eq_some_iff.1 hk).1
   simp at hl2
   have hkn:k=n:=by omega
   subst hkn
   rw [h2,je] at hk
   simp at hk
   rw [← hk,hu]
theorem zgW {α:Type} {R R':World→Nat→List Value→α→Prop} {size B n z:Nat} {w w':World} {A:Option Addr} {xs:List α} (h:Rws R size w B A n xs) (hR:∀ cs x,R w B cs x→R' w' B cs x) (hA:0<n→∀ b o,A=some ⟨b,o,s⟩→b≠z)
 (hk:∀ b,b≠z→w'.heap[b]? = w.heap[b]?):Rws R' size w' B A n xs:=by
 refine ⟨h.1,fun hn => ?_⟩
 obtain ⟨b,o,e,hb,hr⟩:=h.2 hn;have hbz:=hA hn b o e
 exact ⟨b,o,e,hb,fun k x hx=>by
  obtain ⟨cs,hl,hc,hat⟩:=hr k x hx;exact ⟨cs,hl,hR _ _ hc,fun j v hj=>(jc (a:=⟨b,_,s⟩) (hk b hbz)).trans (hat j v hj)⟩⟩
theorem zei {α:Type} {R R':World→Nat→List Value→α→Prop} {size B n z:Nat} {w w':World} {A:Option Addr} {xs:List α} {t:TypeId} {zs:List Value} (h:Rws R size w B A n xs) (hR:∀ cs x,R w B cs x→R' w' B cs x) (Z:Row w z t zs) (hz:∀ v∈zs,∃ A n c,v=l A n c)
 (hv:∀ cs x,R w B cs x→∃ u,cs[0]? = some u∧∀ A n c,u≠l A n c) (hk:∀ b,b≠z→w'.heap[b]? = w.heap[b]?):Rws R' size w' B A n xs:=by
 refine zgW h hR (fun hn b o e hbz => ?_) hk
 obtain ⟨b',o',e',hb,hr⟩:=h.2 hn;rw [e] at e'
 cases e'
 subst hbz;have hl:0<xs.length:=by have:=h.1;omega
 obtain ⟨cs,-,hc,hat⟩:=hr 0 _ (List.getElem?_eq_getElem hl);obtain ⟨u,hu,hne⟩:=hv cs _ hc;have h0:=hat 0 u hu;rw [cell_of_row w b _ _ t (0,0) Z] at h0
 have hm:u∈zs:=by
  have:=Array.mem_of_getElem? h0;simpa using this
 obtain ⟨A',n',c',e'⟩:=hz u hm;exact hne _ _ _ e'
theorem ziZ {B n z:Nat} {w w':World} {A:Option Addr} {L:List PubE} {t:TypeId} {zs:List Value} (h:Rws PubR 5 w B A n L) (Z:Row w z t zs) (hz:∀ v∈zs,∃ A n c,v=l A n c) (hk:∀ b,b≠z→w'.heap[b]? = w.heap[b]?):Rws PubR 5 w' B A n L:=
 zei h (fun cs e ⟨A,c,e1,e2,e3,e4⟩=>⟨A,c,e1,e2,e3,zei e4 (fun _ _ q=>q) Z hz (fun cs x q=>⟨d f x,by rw [q];rfl,fun _ _ _ q=>by cases q⟩) hk⟩) Z hz (fun cs e ⟨A,c,e1,_⟩=>⟨d f e.relay,by rw [e1];rfl,fun _ _ _ q=>by cases q⟩) hk
theorem zje {B n z:Nat} {w w':World} {A:Option Addr} {TB:List (List ByteArray × List (Nat × Nat))} {t:TypeId} {zs:List Value} (h:Rws TabRr 3 w B A n TB) (hA:∀ b o,A=some ⟨b,o,s⟩→b≠z) (Z:Row w z t zs) (hz:∀ v∈zs,∃ A n c,v=l A n c) (hk:∀ b,b≠z→w'.heap[b]? = w.heap[b]?):Rws TabRr 3 w' B A n TB:=
 zgW h (fun cs t ⟨A,c,vS,AI,cI,e1,e2,e3,e4,e5⟩=>⟨A,c,vS,AI,cI,e1,e2,e3,zei e4 (fun _ _ q=>q) Z hz (fun cs x q=>⟨Q x,by rw [q.1];rfl,fun _ _ _ q=>by cases q⟩) hk,zei e5 (fun _ _ q=>q) Z hz (fun cs x q=>⟨d f (x.1:Int),by rw [q];rfl,fun _ _ _ q=>by cases q⟩) hk⟩) (fun _=>hA) hk
structure OpnS (w:World) (base z:Nat) (s7 s8 vP vS:Value) (vs:List Value) (L:List PubE) (TB:List (List ByteArray × List (Nat × Nat))) (rev:Int) (nP m:Nat):Prop where
 row:Row w z 42 [s7,s8,vP,vS]
 pubs:NewP w base vP nP L rev
 outer:w.ownsRow base 47 1 vS m vs
 len:vs.length=m
 subs:∀ (i:Nat) (v:Value) (t:List ByteArray × List (Nat × Nat)),vs[i]? = some v→TB[i]? = some t→NewQ w base v t.2.length (inD TB i) rev
 inj:Inj (roles vP vS vs)
 lt:∀ b,some b∈roles vP vS vs→base≤b∧b<w.heap.size
 zb:z<base
section
variable {w w' W : World} {base z nP m : Nat} {s7 s8 vP vS : Value} {vs : List Value} {L : List PubE} {TB : List (List ByteArray × List (Nat × Nat))} {rev : Int}
theorem OpnS.below (h:OpnS w base z s7 s8 vP vS vs L TB rev nP m) (hb:Below w.heap.size w w'):OpnS w' base z s7 s8 vP vS vs L TB rev nP m:=by
 have hr:∀ b,some b∈roles vP vS vs→w'.heap[b]? = w.heap[b]? := fun b q=>hb.block b (h.lt b q).2
 obtain ⟨css,h1,h2,h3⟩:=h.pubs.ex;refine ⟨h.row.below hb h.row.lt,⟨css,zat h1 (fun b q=>hr b (by simp [roles,q])),h2,h3⟩,zat h.outer (fun b q=>hr b (by simp [roles,q])),h.len,fun i v t hv ht => ?_,h.inj,fun b q=>⟨(h.lt b q).1,jd (h.lt b q).2 hb.size⟩,h.zb⟩
 exact (h.subs i v t hv ht).stay fun b q=>hr b (by
  simp only [roles,jk,List.mem_map];exact .inr (.inr ⟨v,V hv,q⟩))
theorem OpnS.pub (h:OpnS w base z s7 s8 vP vS [] L TB rev nP 0) {o:Obj} {v':Value} (hg:(w.alloc o).grownBy w' vP.ownBlock) (hv:v'.ownBlock=vP.ownBlock∨v'.ownBlock=some (w.heap.size+1)) {css:List (List Value)}
 (h2:css.length=nP) (h3:∀ (k:Nat) (cs:List Value),css[k]? = some cs→cs=(pubG L rev k).cells s 0) (hown:w'.ownsRow base 93 13 v' (nP+1) (css.flatten++(pubG L rev nP).cells s 0)) (hS:vS = l s 0 0) :
 OpnS (w'.setCell ⟨z,2,s⟩ v') base z s7 s8 v' vS [] L TB rev (nP+1) 0:=by
 subst hS;have hzw:z<w.heap.size:=h.row.lt;have hzo:vP.ownBlock≠some z:=fun q=>by have:=(h.lt z (by simp [roles,q])).1;have:=h.zb;omega
 have hzo':v'.ownBlock≠some z:=by
  rcases hv with q | q
  · rw [q];exact hzo
  · rw [q];intro e;cases e;omega
 have hrow:Row w' z 42 [s7,s8,vP,l s 0 0]:=(hg.block z (by simp;omega) (fun q=>hzo q.symm)).trans ((heap_alloc_old w o hzw).trans h.row);refine ⟨hrow.set (i:=2) (v:=v'),⟨css++[(pubG L rev nP).cells s 0],?_,by simp [h2],fun k cs hk => ?_⟩,jh _ _ _ _,rfl,fun i v t hv=>by simp at hv,?_,fun b q => ?_,h.zb⟩
 · have:=zfK (g:=z) (i:=2) (u:=v') hown hzo'
   simpa using this
 · rcases Nat.lt_or_ge k css.length with hl | hl
   · rw [ja hl] at hk
     exact h3 k cs hk
   · rw [jb hl] at hk
     have hl2:=(List.getElem?_eq_some_iff.1 hk).1
     simp at hl2
     have hkn:k=nP:=by omega
     subst hkn
     rw [h2,je] at hk
     simp at hk
     exact hk.symm
 · intro i j b hi hj
   rcases i with _ | _ | i <;> rcases j with _ | _ | j <;> simp [roles,jg] at hi hj ⊢
 · simp only [roles,List.map_nil,jk,jl,or_false,jg] at q
   rcases q with q | q
   · have:=hown.lt b q.symm
     simpa using this
   · cases q
theorem OpnS.dev (h:OpnS w base z s7 s8 vP vS vs L TB rev nP m) {o:Obj} {v v':Value} {t:List ByteArray × List (Nat × Nat)} (ht:TB[m]? = some t) (hsub:NewQ w base v t.2.length (inD TB m) rev) (hap:∀ b,v.ownBlock=some b→base≤b∧b<w.heap.size∧some b ∉ roles vP vS vs)
 (hg:(w.alloc o).grownBy w' vS.ownBlock) (hv:v'.ownBlock=vS.ownBlock∨v'.ownBlock=some (w.heap.size+1)) (hown:w'.ownsRow base 47 1 v' (m+1) (vs++[v])) :
 OpnS (w'.setCell ⟨z,3,s⟩ v') base z s7 s8 vP v' (vs++[v]) L TB rev nP (m+1):=by
 have hzw:z<w.heap.size:=h.row.lt;have hzr:∀ b,some b∈roles vP vS vs→b≠z:=fun b q e=>by subst e;have:=(h.lt b q).1;have:=h.zb;omega
 have hzo:vS.ownBlock≠some z:=fun q=>hzr z (by simp [roles,q]) rfl
 have hzo':v'.ownBlock≠some z:=by
  rcases hv with q | q
  · rw [q];exact hzo
  · rw [q];intro e;cases e;omega
 have hstay:∀ b,b<w.heap.size→vS.ownBlock≠some b→b≠z→(w'.setCell ⟨z,3,s⟩ v').heap[b]? = w.heap[b]? := fun b h1 h2 h3=>(heap_setCell_other _ ⟨z,3,s⟩ b _ h3).trans ((hg.block b (by simp;omega) (fun q=>h2 q.symm)).trans (heap_alloc_old w o h1))
 have hs':w.heap.size≤(w'.setCell ⟨z,3,s⟩ v').heap.size:=by rw [World.size_setCell];have:=hg.size;simp at this;omega
 have hrow:Row w' z 42 [s7,s8,vP,vS]:=(hg.block z (by simp;omega) (fun q=>hzo q.symm)).trans ((heap_alloc_old w o hzw).trans h.row);have hne:∀ (j b:Nat),j≠1→(roles vP vS vs)[j]? = some (some b)→vS.ownBlock≠some b:=fun j b hj hb q=>hj (h.inj j 1 b hb (by simp [roles,q]))
 have hrj:∀ (j b:Nat),j≠1→(roles vP vS vs)[j]? = some (some b)→(w'.setCell ⟨z,3,s⟩ v').heap[b]? = w.heap[b]? := fun j b hj hb=>hstay b (h.lt b (V hb)).2 (hne j b hj hb) (hzr b (V hb))
 obtain ⟨css,h1,h2,h3⟩:=h.pubs.ex;have hapz:∀ b,v.ownBlock=some b→(w'.setCell ⟨z,3,s⟩ v').heap[b]? = w.heap[b]? := fun b q=>hstay b (hap b q).2.1 (fun e=>(hap b q).2.2 (by simp [roles,e])) (fun e=>by have:=(hap b q).1;have:=h.zb;omega)
 have hro:∀ (j:Nat) (b:Nat),(roles vP v' (vs++[v]))[j]? = some (some b)→(j=1∧v'.ownBlock=some b)∨(j≠1∧j<vs.length+2∧(roles vP vS vs)[j]? = some (some b))∨(j=vs.length+2∧v.ownBlock=some b):=by
  intro j b hb
  rcases j with _ | _ | j
  · refine .inr (.inl ⟨by omega,by omega,?_⟩)
    simpa [roles] using hb
  · refine .inl ⟨rfl,?_⟩
    simpa [roles] using hb
  · have hb':((vs++[v]).map (·.ownBlock))[j]? = some (some b):=by simpa [roles] using hb
    rw [List.map_append] at hb'
    rcases Nat.lt_or_ge j vs.length with hl | hl
    · rw [ja (by simpa using hl)] at hb'
      refine .inr (.inl ⟨by omega,by omega,?_⟩)
      simpa [roles] using hb'
    · rw [jb (by simpa using hl)] at hb'
      have hl2:=(List.getElem?_eq_some_iff.1 hb').1
      simp at hl2
      have hj:j=vs.length:=by omega
      subst hj
      simp at hb'
      exact .inr (.inr ⟨rfl,hb'⟩)
 refine ⟨hrow.set (i:=3) (v:=v'),⟨css,zat h1 (fun b q=>hrj 0 b (by omega) (by simp [roles,q])),h2,h3⟩,?_,by simp [h.len],fun i u t' hu ht' => ?_,?_,fun b q => ?_,h.zb⟩
 · have:=zfK (g:=z) (i:=3) (u:=v') hown hzo'
   simpa using this
 · rcases Nat.lt_or_ge i vs.length with hl | hl
   · rw [ja hl] at hu
     exact (h.subs i u t' hu ht').stay fun b q=>hrj (i+2) b (by omega) (by rw [zdd hu,q])
   · rw [jb hl] at hu
     have hl2:=(List.getElem?_eq_some_iff.1 hu).1
     simp at hl2
     have hi:i=m:=by have:=h.len;omega
     subst hi
     rw [h.len,je] at hu
     simp at hu
     subst hu
     rw [ht] at ht'
     cases ht'
     exact hsub.stay hapz
 · intro i j b hi hj
   have hnew:∀ (q:Nat) (c:Nat),(roles vP vS vs)[q]? = some (some c)→q≠1→v'.ownBlock≠some c:=fun q c hq hq1 e=>by
    rcases hv with e' | e'
    · exact hne q c hq1 hq (e'.symm.trans e)
    · rw [e] at e'
      cases e'
      have:=(h.lt _ (V hq)).2
      omega
   have hvv:∀ c,v.ownBlock=some c→v'.ownBlock≠some c:=fun c hc e=>by
    rcases hv with e' | e'
    · exact (hap c hc).2.2 (by simp [roles,← e',e])
    · rw [e] at e'
      cases e'
      have:=(hap _ hc).2.1
      omega
   rcases hro i b hi with ⟨a1,a2⟩ | ⟨a1,a2,a3⟩ | ⟨a1,a2⟩ <;> rcases hro j b hj with ⟨b1,b2⟩ | ⟨b1,b2,b3⟩ | ⟨b1,b2⟩
   · omega
   · exact absurd a2 (hnew j b b3 b1)
   · exact absurd a2 (hvv b b2)
   · exact absurd b2 (hnew i b a3 a1)
   · exact h.inj i j b a3 b3
   · exact absurd (V a3) (hap b b2).2.2
   · exact absurd b2 (hvv b a2)
   · exact absurd (V b3) (hap b a2).2.2
   · omega
 · obtain ⟨j,hj⟩:=List.getElem?_of_mem q
   rcases hro j b hj with ⟨-,a2⟩ | ⟨-,-,a3⟩ | ⟨-,a2⟩
   · have:=hown.lt b a2
     simpa using this
   · have:=h.lt b (V a3)
     exact ⟨this.1,jd this.2 hs'⟩
   · have:=hap b a2
     exact ⟨this.1,jd this.2.1 hs'⟩
theorem OpnS.off (h:OpnS w base z s7 s8 vP vS vs L TB rev nP TB.length):OffS w base vP vS vs nP (pubG L rev) (TB.map (·.2.length)) (fun i k=>SbM.new (inD TB i k:Int) rev):=by
 have ho:=h.outer;rw [← h.len] at ho;refine ⟨h.inj,h.lt,h.pubs.lst _,ho,by rw [List.length_map,h.len],fun i v n hv hn => ?_⟩
 rw [List.getElem?_map] at hn
 cases ht:TB[i]? with
 | none=>rw [ht] at hn;cases hn
 | some t =>
   rw [ht] at hn
   cases hn
   exact (h.subs i v t hv ht).lst _
end
structure Opened (w w':World) (L:List PubE) (TB:List (List ByteArray × List (Nat × Nat))) (A7 A8:Option Addr) (c7 c8:Nat) (base B1:Nat) (vP vS:Value) (vs:List Value) (rev:Int):Prop where
 k7:L.length≤c7∧c7≤maxLen
 k8:TB.length≤c8∧c8≤maxLen
 pubs:Rws PubR 5 w' B1 A7 L.length L
 tabs:Rws TabRr 3 w' B1 A8 TB.length TB
 b1:B1≤base
 off:OffS w' base vP vS vs L.length (pubG L rev) (TB.map (·.2.length)) (fun i k=>SbM.new (inD TB i k:Int) rev)
 len:vs.length=TB.length
 rev:0≤rev∧rev≤4294967295
 bel:Below w.heap.size w w'
 lo:w.heap.size≤B1∧base≤w'.heap.size
theorem infoPS:(Tryz.prog.info? 93).map (fun i=>(i.zero,i.size,i.bytes))=some (some (U #[d f 0,d f 0,d f 0,d f 0,C false,d f 0,d f 0,d f 0,d f 0,d f 0,d f 0,d f 0,l s 0 0]),13,120):=by kernel_rfl
theorem infoSS:(Tryz.prog.info? 78).map (fun i=>(i.zero,i.size,i.bytes))=some (some (U #[d f 0,d f 0,C false,d f 0,d f 0,d f 0,d f 0,C false,l s 0 0]),9,88):=by kernel_rfl
theorem infoSL:(Tryz.prog.info? 47).map (fun i=>(i.zero,i.size,i.bytes))=some (some (l s 0 0),1,24):=by kernel_rfl
def OpR1 (base z:Nat) (s7 s8:Value) (L:List PubE) (TB:List (List ByteArray × List (Nat × Nat))) (rev:Int) (W3:World) (i:Value) (wr:World):Prop:=
 ∃ n:Nat,n≤L.length∧i = d f (n:Int)∧∃ vP,OpnS wr base z s7 s8 vP (l s 0 0) [] L TB rev n 0∧KB (fun b=>b=z∨base≤b) W3 wr
def OpR2 (base z:Nat) (s7 s8 vP:Value) (L:List PubE) (TB:List (List ByteArray × List (Nat × Nat))) (rev:Int) (W3:World) (i:Value) (wr:World):Prop:=
 ∃ m:Nat,m≤TB.length∧i = d f (m:Int)∧∃ vS vs,OpnS wr base z s7 s8 vP vS vs L TB rev L.length m∧KB (fun b=>b=z∨base≤b) W3 wr
def OpR3 (w4:World) (n:Nat) (D:Nat→Nat) (rev:Int) (v k:Value) (wr:World):Prop:=
 ∃ j:Nat,j≤n∧k = d f (j:Int)∧NewQ wr w4.heap.size v j D rev∧Below w4.heap.size w4 wr
theorem zcD (xs:List RelayX) (I:List (List (Nat × Nat))):(zaA xs I).length=xs.length:=by unfold zaA;simp
theorem zj9 (B:Nat) (p:StAt) (S:StatM) (A:Option Addr) (cc:Nat) (xs:List RelayX) (I:List (List (Nat × Nat))) (w:World) (hB:B≤w.heap.size) (T:Tab w) (h:ConfX w B p S A cc xs) (hn:zaH (zap xs)) (hF:CfgF S xs)
 (hP:PubsOk xs) (hI:∀ (k:Nat) (x:RelayX),xs[k]? = some x→∃ ins,I[k]? = some ins∧InpF (zap xs) (zah xs xs.length) k x.r.subs ins)
 (hL:(zah xs xs.length).length≤100) (hE:∀ e∈zah xs xs.length,(1≤e.first∧e.first≤100)∧(e.first≤e.max∧e.max≤1000)) (hI2:∀ t∈zaA xs I,t.2.length≤24) :
 Calls Tryz.prog 6 #[U #[Q S.name,l p.A1 S.buses.length p.c1,l p.A2 S.lines.length p.c2,l p.A3 S.sources.length p.c3,l p.A4 S.bays.length p.c4,l A xs.length cc]] w (fun e w'=>∃ A7 A8 c7 c8 base B1 vP vS vs rev,e = .returned (.tuple #[U #[l A7 (zah xs xs.length).length c7,l A8 (zaA xs I).length c8,vP,vS],C true])∧Opened w w' (zah xs xs.length) (zaA xs I) A7 A8 c7 c8 base B1 vP vS vs rev):=by
 obtain ⟨j1,hi,hz0,hz1,hz2⟩:=info_parts infoPS;have HTP:=Hd (X hi (X hz0 (X hz1 hz2)));clear hi hz0 hz1 hz2;obtain ⟨j2,hi,hz0,hz1,hz2⟩:=info_parts infoSS;have HTS:=Hd (X hi (X hz0 (X hz1 hz2)));clear hi hz0 hz1 hz2;obtain ⟨j3,hi,hz0,hz1,hz2⟩:=info_parts infoSL;have HTO:=Hd (X hi (X hz0 (X hz1 hz2)));clear hi hz0 hz1 hz2;have hx20:xs.length≤20:=by have:=hn.1;rw [zaL] at this;exact this
 have hb:Below w.heap.size w ((w.alloc (E #[Q S.name,l p.A1 S.buses.length p.c1,l p.A2 S.lines.length p.c2,l p.A3 S.sources.length p.c3,l p.A4 S.bays.length p.c4,l A xs.length cc] 30)).alloc (E #[l s 0 0,l s 0 0,l s 0 0,l s 0 0] 42)):=(zaa w _).alloc (by simp) _;have R0:Row ((w.alloc (E #[Q S.name,l p.A1 S.buses.length p.c1,l p.A2 S.lines.length p.c2,l p.A3 S.sources.length p.c3,l p.A4 S.bays.length p.c4,l A xs.length cc] 30)).alloc (E #[l s 0 0,l s 0 0,l s 0 0,l s 0 0] 42)) w.heap.size 30 [Q S.name,l p.A1 S.buses.length p.c1,l p.A2 S.lines.length p.c2,l p.A3 S.sources.length p.c3,l p.A4 S.bays.length p.c4,l A xs.length cc]:=(Row.new w.heap.size [Q S.name,l p.A1 S.buses.length p.c1,l p.A2 S.lines.length p.c2,l p.A3 S.sources.length p.c3,l p.A4 S.bays.length p.c4,l A xs.length cc] rfl).below (zaa _ _) (by simp);have RZ:Row ((w.alloc (E #[Q S.name,l p.A1 S.buses.length p.c1,l p.A2 S.lines.length p.c2,l p.A3 S.sources.length p.c3,l p.A4 S.bays.length p.c4,l A xs.length cc] 30)).alloc (E #[l s 0 0,l s 0 0,l s 0 0,l s 0 0] 42)) (w.heap.size+1) 42 [l s 0 0,l s 0 0,l s 0 0,l s 0 0]:=Row.new _ [l s 0 0,l s 0 0,l s 0 0,l s 0 0] (by simp);have hsz:(((w.alloc (E #[Q S.name,l p.A1 S.buses.length p.c1,l p.A2 S.lines.length p.c2,l p.A3 S.sources.length p.c3,l p.A4 S.bays.length p.c4,l A xs.length cc] 30)).alloc (E #[l s 0 0,l s 0 0,l s 0 0,l s 0 0] 42))).heap.size=w.heap.size+2:=by simp
 obtain ⟨q0,q1,q2,q3,q4,q5⟩:=kr6 R0;generalize hP1:p.A1=P1 at *;have HP1:=Hd hP1;clear hP1;generalize hP2:p.A2=P2 at *;have HP2:=Hd hP2;clear hP2;generalize hP3:p.A3=P3 at *;have HP3:=Hd hP3;clear hP3;generalize hP4:p.A4=P4 at *;have HP4:=Hd hP4;clear hP4;have l0:=R0.lt;have H:=Hd h;have HF:=Hd hF;have HN:=Hd hn;have HT:=Hd T;have HB:=Hd hb;have HRZ:=Hd RZ;have HSZ:=Hd hsz;have HEF:=Hd hE;have HI2:=Hd hI2
 have HCO:=Hd (show ∀ W',Below w.heap.size w W'→Calls Tryz.prog 18 #[U #[Q S.name,l P1 S.buses.length p.c1,l P2 S.lines.length p.c2,l P3 S.sources.length p.c3,l P4 S.bays.length p.c4,l A xs.length cc]] W' (fun e w'=>∃ A7 c7 A8 c8,e = .returned (.tuple #[U #[l A7 (zah xs xs.length).length c7,l A8 xs.length c8],d f 0])∧(zah xs xs.length).length≤c7∧c7≤maxLen∧xs.length≤c8∧c8≤maxLen∧Rws PubR 5 w' w'.heap.size A7 (zah xs xs.length).length (zah xs xs.length)∧Rws TabRr 3 w' w'.heap.size A8 xs.length (zaA xs I)∧Below W'.heap.size W' w'∧(∀ b o,A7=some ⟨b,o,s⟩→W'.heap.size≤b)∧(∀ b o,A8=some ⟨b,o,s⟩→W'.heap.size≤b)) from fun W' hW=>by
  have h1:=ziC B cc p S A xs I W' (jj hB hW.size) (h.mono (Y _) (hW.mono hB)) hn hF hP hI;rw [HP1.out,HP2.out,HP3.out,HP4.out] at h1;exact h1)
 have HDI:=Hd (show ∀ W',Below w.heap.size w W'→Calls Tryz.prog 19 #[U #[Q S.name,l P1 S.buses.length p.c1,l P2 S.lines.length p.c2,l P3 S.sources.length p.c3,l P4 S.bays.length p.c4,l A xs.length cc]] W' (RetU W') from fun W' hW=>by
  have h1:=zjF B p S A cc xs W' (jj hB hW.size) (T.below hW T.2) (h.mono (Y _) (hW.mono hB)) hn hF;rw [HP1.out,HP2.out,HP3.out,HP4.out] at h1;exact h1)
 clear h hF hn T hb R0 RZ hsz hE hI2 hI hP;go_enter Tryz.func6,Tryz.ntmps6;go_upto_region 1 with fail
 generalize ((w.alloc (E #[Q S.name,l P1 S.buses.length p.c1,l P2 S.lines.length p.c2,l P3 S.sources.length p.c3,l P4 S.bays.length p.c4,l A xs.length cc] 30)).alloc (E #[l s 0 0,l s 0 0,l s 0 0,l s 0 0] 42))=W0 at *;generalize hLL:zah xs xs.length=L at *;generalize hTT:zaA xs I=TB at *;have HLL:=Hd hLL;have HTT:=Hd hTT;have hTBl:TB.length=xs.length:=by rw [← hTT];exact zcD xs I
 clear hLL hTT;go_wp2_with fail
 refine (HCO.out _ HB.out).mono ?_
 rintro e w1 ⟨A7,c7,A8,c8,rfl,k1,k2,k3,k4,hr7,hr8,hb1,-,hA8⟩
 have HA8:=Hd hA8;clear hA8;have l1:=jd l0 hb1.size;obtain ⟨r0,r1,r2,r3,r4,r5⟩:=kb6 hb1 l0 ⟨q0,q1,q2,q3,q4,q5⟩;have hs01:=HB.out.size;have hs1:=hb1.size;have HB1:=Hd hb1;have HRR7:=Hd hr7;have HRR8:=Hd (show Rws TabRr 3 w1 w1.heap.size A8 TB.length TB by rw [hTBl];exact hr8);have hk8:TB.length≤c8:=by omega
 have hb2:Below w1.heap.size w1 ((w1.alloc (E #[l A7 L.length c7,l A8 xs.length c8] 38)).alloc (E #[l A7 L.length c7,l A8 xs.length c8,l s 0 0,l s 0 0] 42)):=(zaa w1 _).alloc (by simp) _;have RT:Row ((w1.alloc (E #[l A7 L.length c7,l A8 xs.length c8] 38)).alloc (E #[l A7 L.length c7,l A8 xs.length c8,l s 0 0,l s 0 0] 42)) w1.heap.size 38 [l A7 L.length c7,l A8 xs.length c8]:=(Row.new _ [l A7 L.length c7,l A8 xs.length c8] rfl).below (zaa _ _) (by simp);have RO:Row ((w1.alloc (E #[l A7 L.length c7,l A8 xs.length c8] 38)).alloc (E #[l A7 L.length c7,l A8 xs.length c8,l s 0 0,l s 0 0] 42)) (w1.heap.size+1) 42 [l A7 L.length c7,l A8 xs.length c8,l s 0 0,l s 0 0]:=Row.new _ [l A7 L.length c7,l A8 xs.length c8,l s 0 0,l s 0 0] (by simp);have hsz2:((w1.alloc (E #[l A7 L.length c7,l A8 xs.length c8] 38)).alloc (E #[l A7 L.length c7,l A8 xs.length c8,l s 0 0,l s 0 0] 42)).heap.size=w1.heap.size+2:=by simp
 clear hb1 hr7 hr8 q0 q1 q2 q3 q4 q5;go_upto_region 3 with fail
 generalize ((w1.alloc (E #[l A7 L.length c7,l A8 xs.length c8] 38)).alloc (E #[l A7 L.length c7,l A8 xs.length c8,l s 0 0,l s 0 0] 42))=w2 at *;obtain ⟨r0',r1',r2',r3',r4',r5'⟩:=kb6 hb2 l1 ⟨r0,r1,r2,r3,r4,r5⟩;have HSZ2:=Hd hsz2;have HB2:=Hd hb2;have HRT:=Hd RT;have HRO:=Hd RO;clear hb2 RT RO hsz2 r0 r1 r2 r3 r4 r5;have hsl:=HSZ.out;have hb02:Below w.heap.size w w2:=HB.out.trans ((HB1.out.mono hs01).trans (HB2.out.mono (by omega)));have HB02:=Hd hb02;clear hb02;go_wp2_with fail
 refine (HDI.out _ HB02.out).mono ?_
 rintro e w3 ⟨rev,hrev,rfl,hb3⟩
 have hs3:=hb3.size;have hsz2':=HSZ2.out;have HB3:=Hd hb3;have HRT3:=Hd (HRT.out.below hb3 HRT.out.lt)
 have hop0:=Hd (show OpnS w3 w3.heap.size (w1.heap.size+1) (l A7 L.length c7) (l A8 xs.length c8) (l s 0 0) (l s 0 0) [] L TB rev 0 0 from
  ⟨HRO.out.below hb3 HRO.out.lt,⟨[],jh _ _ _ _,rfl,fun k cs hk=>by simp at hk⟩,jh _ _ _ _,rfl,fun i v t hv=>by simp at hv,fun i j b hi hj=>by rcases i with _ | _ | i <;> simp [roles,jg] at hi,fun b q=>by simp [roles,jg] at q,by omega⟩)
 clear hb3 r0' r1' r2' r3' r4' r5';have t0:=Row.cell (k:=0) (v := l A7 L.length c7) HRT3.out rfl;go_wp2;clear t0
 go_loopw [8] (OpR1 w3.heap.size (w1.heap.size+1) (l A7 L.length c7) (l A8 xs.length c8) L TB rev w3) (fun i _=>L.length-(intOf i).toNat)
 case atStart=>exact ⟨0,ji _,rfl,_,hop0.out,KB.refl _ _⟩
 case round =>
  obtain ⟨n,hnl,rfl,vP,hop,hkb⟩:=hrel;have HOP:=Hd hop;have HKB:=Hd hkb;have htl:w1.heap.size<w3.heap.size:=by omega
  have htn:¬ (w1.heap.size=w1.heap.size+1∨w3.heap.size≤w1.heap.size):=by omega
  have hwr:w3.heap.size≤wr.heap.size:=hkb.size;have t0:=(hkb.cell (b:=w1.heap.size) (o:=0) htl htn).trans (Row.cell (k:=0) (v := l A7 L.length c7) HRT3.out rfl);have t1:=(hkb.cell (b:=w1.heap.size) (o:=1) htl htn).trans (Row.cell (k:=1) (v := l A8 xs.length c8) HRT3.out rfl);clear hop hkb
  by_cases hlt:n<L.length
  · obtain ⟨b,o,cs,e,rfl,hbB,he,-,⟨A',c',rfl,hc1,hc2,hsr⟩,hat⟩:=HRR7.out.at_ hlt
    have hbt:b<w3.heap.size:=by have:=HSZ2.out;omega
    have hbn:¬ (b=w1.heap.size+1∨w3.heap.size≤b):=by omega
    have hp:∀ j v,(zd7 (e,A',c'))[j]? = some v→wr.cell? ⟨b,o+n*5+j,s⟩=some v:=fun j v hv=>(HKB.out.cell hbt hbn).trans ((HB3.out.cell (p:=⟨b,o+n*5+j,s⟩) (by show b<_;have:=HSZ2.out;omega)).trans ((HB2.out.cell (p:=⟨b,o+n*5+j,s⟩) hbB).trans (hat j v hv)))
    have p2:=hp 2 _ rfl
    have p3:=hp 3 _ rfl
    have hee:=HEF.out e (V he)
    have hni:(n:Int)<(L.length:Int):=by omega
    have hn0:(0:Int)≤(n:Int):=by omega
    have HE:=Hd he
    have HPN:=Hd (show ∀ W',Calls Tryz.prog 20 #[d f (n:Int),d f e.first,d f e.max,d f rev] W' (fun e9 w'=>e9 = .returned (.tuple #[U #[d f (n:Int),d f e.first,d f e.max,d f rev,C false,d f 0,d f 0,d f 0,d f 0,d f 0,d f 0,d f 0,l s 0 0],d f 0])∧Below W'.heap.size W' w') from fun W'=>zke (n:Int) e.first e.max rev (by omega) hee.1 hee.2 hrev W')
    have ltl:w1.heap.size<wr.heap.size:=by omega
    have ltb:b<wr.heap.size:=by omega
    have HEE:=Hd hee
    clear hat hp he hsr hc1 hc2 hee
    go_upto_region 7 with fail
    go_cut [9,10] from 31 to 48 (fun v9 v10 wx=>∃ kb,v9 = .pointer (some ⟨kb,0,s⟩)∧v10 = d f 0∧Row wx kb 93 [d f (n:Int),d f e.first,d f e.max,d f rev,C false,d f 0,d f 0,d f 0,d f 0,d f 0,d f 0,d f 0,l s 0 0]∧Below wr.heap.size wr wx)
    case first =>
     refine zau (fun w'=>KB (fun _=>False) wr w') (fun w'=>Below wr.heap.size wr w') 99 (by kernel_rfl) ?_
     obtain ⟨wx,hwd0⟩:∃ x,x=wr.drew:=⟨_,rfl⟩
     have hS:KB (fun _=>False) wr wx:=by rw [hwd0];exact (KB.refl _ _).drew
     have hC:Below wr.heap.size wr wx:=by rw [hwd0];exact (Below.refl _ _).drew
     rw [← hwd0]
     clear hwd0
     have hz:=hC.size
     have hCC:=hC
     refine zam 0 rfl hS (fun _=>hCC) ?_
     try simp only [O,G,J,M]
     refine zam 1 rfl hS (fun _=>hCC) ?_
     try simp only [O,G,J,M]
     refine zaS 2 ?_ rfl hS (fun _=>hCC) ?yld ?_
     case yld=>(intro wq hSw;have e0:=(hSw.cell (o:=0) ltl (fun z=>z)).trans t0;go_simp <;> with_reducible rfl)
     try simp only [O,G,J,M]
     refine zam 3 rfl hS (fun _=>hCC) ?_
     try simp only [O,G,J,M]
     refine zam 4 rfl hS (fun _=>hCC) ?_
     try simp only [O,G,J,M]
     refine zam 5 rfl hS (fun _=>hCC) ?_
     try simp only [O,G,J,M]
     refine zaS 6 ?_ rfl hS (fun _=>hCC) ?yld ?_
     case yld=>(intro wq hSw;have e0:=(hSw.cell (b:=b) (o:=o+n*5+2) ltb (fun z=>z)).trans p2;go_simp <;> with_reducible rfl)
     try simp only [O,G,J,M]
     refine zam 7 rfl hS (fun _=>hCC) ?_
     try simp only [O,G,J,M]
     refine zaS 8 ?_ rfl hS (fun _=>hCC) ?yld ?_
     case yld=>(intro wq hSw;have e0:=(hSw.cell (o:=0) ltl (fun z=>z)).trans t0;go_simp <;> with_reducible rfl)
     try simp only [O,G,J,M]
     refine zam 9 rfl hS (fun _=>hCC) ?_
     try simp only [O,G,J,M]
     refine zam 10 rfl hS (fun _=>hCC) ?_
     try simp only [O,G,J,M]
     refine zam 11 rfl hS (fun _=>hCC) ?_
     try simp only [O,G,J,M]
     refine zaS 12 ?_ rfl hS (fun _=>hCC) ?yld ?_
     case yld=>(intro wq hSw;have e0:=(hSw.cell (b:=b) (o:=o+n*5+3) ltb (fun z=>z)).trans p3;go_simp <;> with_reducible rfl)
     try simp only [O,G,J,M]
     refine zam 13 rfl hS (fun _=>hCC) ?_
     try simp only [O,G,J,M]
     refine zad (rs:=[14,18]) (by kernel_rfl) (by simp) ?_
     refine AllReadyT.cons (i:=14) rfl (fun K hK => ?_) ?_
     · skip
       go_simp
       go_at_call 20
       (with_reducible refine (HPN.out _).mono ?_)
       rintro e9 wc1 ⟨rfl,hb9⟩
       have hC1:=hC.trans (hb9.mono hC.size)
       go_wp2_with fail
       refine hK.out _ _ (KB.of_below hC1) (fun _=>hC1) (fun hS hCC => ?_)
       have hCC:=hCC rfl
       have hC:=hCC
       clear hK K
       try simp only [O,G,J,M]
       clear hb9 hC1
       refine zam 15 rfl hS (fun _=>hCC) ?_
       try simp only [O,G,J,M]
       refine zam 16 rfl hS (fun _=>hCC) ?_
       try simp only [O,G,J,M]
       refine zam 17 rfl hS (fun _=>hCC) ?_
       try simp only [O,G,J,M]
       refine zad (rs:=[18]) (by kernel_rfl) (by simp) ?_
       refine AllReadyT.cons (i:=18) rfl (fun K hK => ?_) ?_
       · skip
         have hkz:=hC.size
         go_simp
         refine hK.out _ _ (KB.alloc hS _) (fun _=>hC.alloc hC.size _) (fun hS hCC => ?_)
         have hCC:=hCC rfl
         have hC:=hCC
         clear hK K
         try simp only [O,G,J,M]
         have HRP:=Hd (Row.new (w:=wc1) (t := 93) wc1.heap.size [d f 0,d f 0,d f 0,d f 0,C false,d f 0,d f 0,d f 0,d f 0,d f 0,d f 0,d f 0,l s 0 0] rfl)
         have hkb9:=hC.size
         skip
         generalize wc1.alloc (E #[d f 0,d f 0,d f 0,d f 0,C false,d f 0,d f 0,d f 0,d f 0,d f 0,d f 0,d f 0,l s 0 0] 93)=wl2 at *
         refine zad (rs:=[19]) (by kernel_rfl) (by simp) ?_
         refine AllReadyT.cons (i:=19) rfl (fun K hK => ?_) ?_
         · skip
           obtain ⟨y0,y1,y2,y3,y4,y5,y6,y7,y8,y9,y10,y11,y12⟩:=kr13 HRP.out;obtain ⟨yf0,yf1,yf2,yf3,yf4,yf5,yf6,yf7,yf8,yf9,yf10,yf11,yf12⟩:=kq13 HRP.out
           have HR9:=Hd (show Row (sets (wc1.heap.size) wl2 [(0,d f (n:Int)),(1,d f e.first),(2,d f e.max),(3,d f rev),(4,C false),(5,d f 0),(6,d f 0),(7,d f 0),(8,d f 0),(9,d f 0),(10,d f 0),(11,d f 0),(12,l s 0 0)]) (wc1.heap.size) 93 [d f (n:Int),d f e.first,d f e.max,d f rev,C false,d f 0,d f 0,d f 0,d f 0,d f 0,d f 0,d f 0,l s 0 0] from HRP.out.sets [(0,d f (n:Int)),(1,d f e.first),(2,d f e.max),(3,d f rev),(4,C false),(5,d f 0),(6,d f 0),(7,d f 0),(8,d f 0),(9,d f 0),(10,d f 0),(11,d f 0),(12,l s 0 0)])
           have HB9:=Hd (zak (g:=wc1.heap.size) hkz [(0,d f (n:Int)),(1,d f e.first),(2,d f e.max),(3,d f rev),(4,C false),(5,d f 0),(6,d f 0),(7,d f 0),(8,d f 0),(9,d f 0),(10,d f 0),(11,d f 0),(12,l s 0 0)] wl2 hC)
           go_simp
           refine hK.out _ _ (P (P (P (P (P (P (P (P (P (P (P (P (P (hS) (.inr hkz) _ _) (.inr hkz) _ _) (.inr hkz) _ _) (.inr hkz) _ _) (.inr hkz) _ _) (.inr hkz) _ _) (.inr hkz) _ _) (.inr hkz) _ _) (.inr hkz) _ _) (.inr hkz) _ _) (.inr hkz) _ _) (.inr hkz) _ _) (.inr hkz) _ _) (fun _=>HB9.out) (fun hS hCC => ?_)
           have hCC:=hCC rfl
           have hC:=hCC
           clear hK K
           try simp only [O,G,J,M]
           clear y0 yf0 y1 yf1 y2 yf2 y3 yf3 y4 yf4 y5 yf5 y6 yf6 y7 yf7 y8 yf8 y9 yf9 y10 yf10 y11 yf11 y12 yf12
           refine zam 20 rfl hS (fun _=>hCC) ?_
           try simp only [O,G,J,M]
           refine zaR (by kernel_rfl) ?_ _
           go_wp2
           go_meet
           exact ⟨_,rfl,rfl,HR9.out,HB9.out⟩
         exact AllReadyT.nil
       exact AllReadyT.nil
     refine AllReadyT.cons (i:=18) rfl (fun K hK => ?_) ?_
     · skip
       have hkz:=hC.size
       go_simp
       refine hK.out _ _ (KB.alloc hS _) (fun _=>hC.alloc hC.size _) (fun hS hCC => ?_)
       have hCC:=hCC rfl
       have hC:=hCC
       clear hK K
       try simp only [O,G,J,M]
       have HRP:=Hd (Row.new (w:=wx) (t := 93) wx.heap.size [d f 0,d f 0,d f 0,d f 0,C false,d f 0,d f 0,d f 0,d f 0,d f 0,d f 0,d f 0,l s 0 0] rfl)
       have hkb9:=hC.size
       skip
       generalize wx.alloc (E #[d f 0,d f 0,d f 0,d f 0,C false,d f 0,d f 0,d f 0,d f 0,d f 0,d f 0,d f 0,l s 0 0] 93)=wl3 at *
       refine zad (rs:=[14]) (by kernel_rfl) (by simp) ?_
       refine AllReadyT.cons (i:=14) rfl (fun K hK => ?_) ?_
       · skip
         go_simp
         go_at_call 20
         (with_reducible refine (HPN.out _).mono ?_)
         rintro e9 wc4 ⟨rfl,hb9⟩
         have hC1:=hC.trans (hb9.mono hC.size)
         go_wp2_with fail
         refine hK.out _ _ (KB.of_below hC1) (fun _=>hC1) (fun hS hCC => ?_)
         have hCC:=hCC rfl
         have hC:=hCC
         clear hK K
         try simp only [O,G,J,M]
         have HRP:=Hd (HRP.out.below hb9 HRP.out.lt)
         clear hb9 hC1
         refine zam 15 rfl hS (fun _=>hCC) ?_
         try simp only [O,G,J,M]
         refine zam 16 rfl hS (fun _=>hCC) ?_
         try simp only [O,G,J,M]
         refine zam 17 rfl hS (fun _=>hCC) ?_
         try simp only [O,G,J,M]
         refine zad (rs:=[19]) (by kernel_rfl) (by simp) ?_
         refine AllReadyT.cons (i:=19) rfl (fun K hK => ?_) ?_
         · skip
           obtain ⟨y0,y1,y2,y3,y4,y5,y6,y7,y8,y9,y10,y11,y12⟩:=kr13 HRP.out;obtain ⟨yf0,yf1,yf2,yf3,yf4,yf5,yf6,yf7,yf8,yf9,yf10,yf11,yf12⟩:=kq13 HRP.out
           have HR9:=Hd (show Row (sets (wx.heap.size) wc4 [(0,d f (n:Int)),(1,d f e.first),(2,d f e.max),(3,d f rev),(4,C false),(5,d f 0),(6,d f 0),(7,d f 0),(8,d f 0),(9,d f 0),(10,d f 0),(11,d f 0),(12,l s 0 0)]) (wx.heap.size) 93 [d f (n:Int),d f e.first,d f e.max,d f rev,C false,d f 0,d f 0,d f 0,d f 0,d f 0,d f 0,d f 0,l s 0 0] from HRP.out.sets [(0,d f (n:Int)),(1,d f e.first),(2,d f e.max),(3,d f rev),(4,C false),(5,d f 0),(6,d f 0),(7,d f 0),(8,d f 0),(9,d f 0),(10,d f 0),(11,d f 0),(12,l s 0 0)])
           have HB9:=Hd (zak (g:=wx.heap.size) hkz [(0,d f (n:Int)),(1,d f e.first),(2,d f e.max),(3,d f rev),(4,C false),(5,d f 0),(6,d f 0),(7,d f 0),(8,d f 0),(9,d f 0),(10,d f 0),(11,d f 0),(12,l s 0 0)] wc4 hC)
           go_simp
           refine hK.out _ _ (P (P (P (P (P (P (P (P (P (P (P (P (P (hS) (.inr hkz) _ _) (.inr hkz) _ _) (.inr hkz) _ _) (.inr hkz) _ _) (.inr hkz) _ _) (.inr hkz) _ _) (.inr hkz) _ _) (.inr hkz) _ _) (.inr hkz) _ _) (.inr hkz) _ _) (.inr hkz) _ _) (.inr hkz) _ _) (.inr hkz) _ _) (fun _=>HB9.out) (fun hS hCC => ?_)
           have hCC:=hCC rfl
           have hC:=hCC
           clear hK K
           try simp only [O,G,J,M]
           clear y0 yf0 y1 yf1 y2 yf2 y3 yf3 y4 yf4 y5 yf5 y6 yf6 y7 yf7 y8 yf8 y9 yf9 y10 yf10 y11 yf11 y12 yf12
           refine zam 20 rfl hS (fun _=>hCC) ?_
           try simp only [O,G,J,M]
           refine zaR (by kernel_rfl) ?_ _
           go_wp2
           go_meet
           exact ⟨_,rfl,rfl,HR9.out,HB9.out⟩
         exact AllReadyT.nil
       exact AllReadyT.nil
     exact AllReadyT.nil
    case rest =>
     obtain ⟨kb,rfl,rfl,hrow,hbx⟩:=hcut
     have hopc:=HOP.out.below hbx
     obtain ⟨css,g1,g2,g3⟩:=hopc.pubs.ex
     obtain ⟨AV,cV,rfl,-,-⟩:=zac g1
     have z2:=Row.cell (k:=2) (v := l AV n cV) hopc.row rfl;have zf:=Row.free hopc.row 2
     have hzl:=hopc.row.lt
     have hszx:=hbx.size
     have hzo:(l AV n cV).ownBlock≠some (w1.heap.size+1):=fun q=>by have:=(g1.lt _ q).1;omega
     obtain ⟨k20,k21,k22,k23,k24,k25,k26,k27,k28,k29,k30,k31,k32⟩:=kr13 hrow
     have HOPC:=Hd hopc
     have HG1:=Hd g1
     have HG3:=Hd g3
     have HBX:=Hd hbx
     clear hopc g1 g3 hrow hbx t0 t1
     go_wp2_with (at_builtin;refine zar (w:=wc.alloc (E #[d f (n:Int),d f e.first,d f e.max,d f rev,C false,d f 0,d f 0,d f 0,d f 0,d f 0,d f 0,d f 0,l s 0 0] 93)) _ _ 39 rfl rfl Tryz.underlying39 HTP.out.1 HTP.out.2.1 HTP.out.2.2.1 HTP.out.2.2.2 rfl (by decide) rfl (HG1.out.alloc _) rfl (za5 wc [d f (n:Int),d f e.first,d f e.max,d f rev,C false,d f 0,d f 0,d f 0,d f 0,d f 0,d f 0,d f 0,l s 0 0] 93 13 1 rfl) (by simp [Value.oneCell']) (by unfold maxLen;omega) (by omega) (by simp;omega) ?_)
     intro v9 w9 hown9 hg9 hv9
     have c2':w9.cell? ⟨w1.heap.size+1,2,s⟩=some (l AV n cV):=by
      rw [jc (a:=⟨w1.heap.size+1,2,s⟩) (hg9.block _ (by simp;omega) (fun q=>hzo q.symm)),jc (a:=⟨w1.heap.size+1,2,s⟩) (heap_alloc_old wc _ hzl)]
      exact z2
     have f2':w9.frozen? ⟨w1.heap.size+1,2,s⟩=false:=by
      rw [jf (a:=⟨w1.heap.size+1,2,s⟩) (hg9.block _ (by simp;omega) (fun q=>hzo q.symm)),jf (a:=⟨w1.heap.size+1,2,s⟩) (heap_alloc_old wc _ hzl)]
      exact zf
     have hcell:(pubG L rev n).cells s 0=[d f (n:Int),d f e.first,d f e.max,d f rev,C false,d f 0,d f 0,d f 0,d f 0,d f 0,d f 0,d f 0,l s 0 0]:=by rw [zkd HE.out];rfl
     have HOP9:=Hd (HOPC.out.pub hg9 (by simpa using hv9) g2 HG3.out (by rw [hcell];exact hown9) rfl)
     have HKB9:=Hd ((((HKB.out.thenB HBX.out).alloc (E #[d f (n:Int),d f e.first,d f e.max,d f rev,C false,d f 0,d f 0,d f 0,d f 0,d f 0,d f 0,d f 0,l s 0 0] 93)).grow hg9 (fun b q => .inl (.inr (HG1.out.lt b q).1))).set (g:=w1.heap.size+1) 2 v9 (.inl rfl))
     obtain ⟨A9,c9,rfl,-,-⟩:=zac hown9
     clear hown9 hg9 hv9 z2 zf hcell k20 k21 k22 k23 k24 k25 k26 k27 k28 k29 k30 k31 k32
     go_wp2
     go_roundw
     case rel=>exact ⟨n+1,by omega,by go_num,_,HOP9.out,HKB9.out⟩
     case measure=>simp [intOf];omega
  · obtain rfl:n=L.length:=by omega
    clear hlt
    obtain ⟨AP,cP,hvp,-,-⟩:∃ A c,vP = l A L.length c∧L.length≤c∧c≤maxLen:=by
     obtain ⟨css,g1,-⟩:=HOP.out.pubs.ex
     exact zac g1
    subst hvp
    go_wp2
    clear t0 t1
    go_loopw [11] (OpR2 w3.heap.size (w1.heap.size+1) (l A7 L.length c7) (l A8 xs.length c8) (l AP L.length cP) L TB rev w3) (fun i _=>xs.length-(intOf i).toNat)
    case atStart=>exact ⟨0,ji _,rfl,_,_,HOP.out,HKB.out⟩
    case round =>
     clear HOP HKB
     obtain ⟨m,hmt,rfl,vS,vs,hop,hkb⟩:=hrel
     have hwr:w3.heap.size≤wr.heap.size:=hkb.size
     have t1:=(hkb.cell (b:=w1.heap.size) (o:=1) htl htn).trans (Row.cell (k:=1) (v := l A8 xs.length c8) HRT3.out rfl)
     have HOP:=Hd hop
     have HKB:=Hd hkb
     clear hop hkb
     by_cases hml:m<xs.length
     · obtain ⟨b,o,cs,t,rfl,hbB,ht,-,⟨AO,cO,vO,AI,cI,rfl,ho1,ho2,ho3,ho4⟩,hat⟩:=HRR8.out.at_ (show m<TB.length by omega)
       have hbt:b<w3.heap.size:=by have:=HSZ2.out;omega
       have hbn:¬ (b=w1.heap.size+1∨w3.heap.size≤b):=by omega
       have p2:w3.cell? ⟨b,o+m*3+2,s⟩=some (l AI t.2.length cI):=(HB3.out.cell (p:=⟨b,o+m*3+2,s⟩) (by show b<_;have:=HSZ2.out;omega)).trans ((HB2.out.cell (p:=⟨b,o+m*3+2,s⟩) hbB).trans (hat 2 _ rfl))
       have HP2:=Hd p2
       have HT9:=Hd ht
       have HO4:=Hd ho4
       have ht24:t.2.length≤24:=HI2.out t (V ht)
       have hmi:(m:Int)<(xs.length:Int):=by omega
       have hm0:(0:Int)≤(m:Int):=by omega
       have p2r:=(HKB.out.cell hbt hbn).trans p2
       clear hat ht ho1 ho2 ho3 ho4 p2
       have HT1:=Hd t1
       have HP2R:=Hd p2r
       go_wp2
       clear t1 p2r
       have HOPW:=Hd HOP.out
       generalize hwl:wr=wl at *
       have HWL:=Hd hwl
       clear hwl
       go_loopw [12,13] (OpR3 wl t.2.length (inD TB m) rev) (fun _ i _=>t.2.length-(intOf i).toNat)
       case atStart=>exact ⟨0,ji _,rfl,⟨[],jh _ _ _ _,rfl,fun k cs hk=>by simp at hk⟩,Below.refl _ _⟩
       case round =>
        obtain ⟨j,hjn,rfl,hq,hbw⟩:=hrel
        have hws:=hbw.size
        have ltl:w1.heap.size<wl.heap.size:=by omega
        have ltb:b<wl.heap.size:=by omega
        have t1:=(hbw.cell (p:=⟨w1.heap.size,1,s⟩) ltl).trans HT1.out
        have p2r:=(hbw.cell (p:=⟨b,o+m*3+2,s⟩) ltb).trans HP2R.out
        obtain ⟨css,g1,g2,g3⟩:=hq
        obtain ⟨AV,cV,rfl,-,-⟩:=zac g1
        have HG1:=Hd g1
        have HG3:=Hd g3
        have HBW:=Hd hbw
        clear g1 g3 hbw
        by_cases hjl:j<t.2.length
        · obtain ⟨b',o',cs',y,rfl,hbB',hy,-,rfl,hat⟩:=HO4.out.at_ hjl
          have lt3:b'<w3.heap.size:=by have:=HSZ2.out;omega
          have ltw:b'<wl.heap.size:=by omega
          have hbn':¬ (b'=w1.heap.size+1∨w3.heap.size≤b'):=by omega
          have i0:wr.cell? ⟨b',o'+j*2,s⟩=some (d f (y.1:Int)):=(HBW.out.cell (p:=⟨b',o'+j*2,s⟩) ltw).trans ((HKB.out.cell lt3 hbn').trans ((HB3.out.cell (p:=⟨b',o'+j*2,s⟩) (by show b'<_;have:=HSZ2.out;omega)).trans ((HB2.out.cell (p:=⟨b',o'+j*2,s⟩) hbB').trans (hat 0 _ rfl))))
          have hDj:inD TB m j=y.1:=by unfold inD;rw [HT9.out];simp only [hy]
          have HDJ:=Hd hDj
          have HSN:=Hd (show ∀ W',Calls Tryz.prog 21 #[d f (y.1:Int),d f rev] W' (fun e9 w'=>e9 = .returned (U #[d f (y.1:Int),d f rev,C false,d f 0,d f 0,d f 0,d f 0,C false,l s 0 0])∧Below W'.heap.size W' w') from fun W'=>zkv (y.1:Int) rev W')
          have hji:(j:Int)<(t.2.length:Int):=by omega
          have hj0:(0:Int)≤(j:Int):=by omega
          clear hat hy hDj
          go_wp2_with fail
          refine (HSN.out _).mono ?_
          rintro e9 w9 ⟨rfl,hb9⟩
          have hs9:=hb9.size
          have HB9:=Hd hb9
          have HG9:=Hd (zab HG1.out hb9 (Y _))
          clear hb9 t1 p2r i0
          go_wp2_with (at_builtin;refine zar (w:=w9.alloc (E #[d f (y.1:Int),d f rev,C false,d f 0,d f 0,d f 0,d f 0,C false,l s 0 0] 78)) _ _ 47 rfl rfl Tryz.underlying47 HTS.out.1 HTS.out.2.1 HTS.out.2.2.1 HTS.out.2.2.2 rfl (by decide) rfl (HG9.out.alloc _) rfl (za5 w9 [d f (y.1:Int),d f rev,C false,d f 0,d f 0,d f 0,d f 0,C false,l s 0 0] 78 9 1 rfl) (by simp [Value.oneCell']) (by unfold maxLen;omega) (by omega) (by simp;omega) ?_)
          intro v9 w10 hown9 hg9 hv9
          have HQ9:=Hd (NewQ.snoc (D:=inD TB m) (rev:=rev) hown9 g2 HG3.out (by rw [HDJ.out];rfl))
          have HBW9:=Hd (HBW.out.trans (((HB9.out.mono (show wl.heap.size≤wr.heap.size from hws)).alloc (by omega) (E #[d f (y.1:Int),d f rev,C false,d f 0,d f 0,d f 0,d f 0,C false,l s 0 0] 78)).trans (zaC hg9 (by simp;omega) fun q hq=>(HG1.out.lt q hq).1)))
          obtain ⟨A9,c9,rfl,-,-⟩:=zac hown9
          clear hown9 hg9 hv9
          go_wp2
          go_roundw
          case rel=>exact ⟨j+1,by omega,by go_num,HQ9.out,HBW9.out⟩
          case measure=>simp [intOf];omega
        · obtain rfl:j=t.2.length:=by omega
          have hopc:=HOPW.out.below HBW.out
          have g1S:=hopc.outer
          have hbnd:vs.length≤20:=by have:=hopc.len;omega
          obtain ⟨AS,cS,rfl,-,-⟩:=zac g1S
          have z3:=Row.cell (k:=3) (v := l AS m cS) hopc.row rfl;have zf:=Row.free hopc.row 3
          have hzl:=hopc.row.lt
          have hzo:(l AS m cS).ownBlock≠some (w1.heap.size+1):=fun q=>by have:=(g1S.lt _ q).1;omega
          have HOPC:=Hd hopc
          have HGS:=Hd g1S
          have hm20:m≤20:=by omega
          have HNQ:=Hd (show NewQ wr w3.heap.size (l AV t.2.length cV) t.2.length (inD TB m) rev from NewQ.mono ⟨css,HG1.out,g2,HG3.out⟩ (by omega))
          have HAP:=Hd (show ∀ q,(l AV t.2.length cV).ownBlock=some q→w3.heap.size≤q∧q<wr.heap.size∧some q ∉ roles (l AP L.length cP) (l AS m cS) vs from fun q hq=>by
           have h1:=HG1.out.lt q hq
           exact ⟨by omega,h1.2,fun hmem=>by have:=(HOPW.out.lt q hmem).2;omega⟩)
          clear hopc g1S
          go_wp2_with (at_builtin;refine zar (w:=wr.alloc (E #[l AV t.2.length cV] 47)) _ _ 40 rfl rfl Tryz.underlying40 HTO.out.1 HTO.out.2.1 HTO.out.2.2.1 HTO.out.2.2.2 rfl (by decide) rfl (HGS.out.alloc _) rfl (za5 wr [l AV t.2.length cV] 47 1 1 rfl) (by simp [Value.oneCell']) (by unfold maxLen;omega) (by omega) (by simp;omega) ?_)
          intro v9 w10 hown9 hg9 hv9
          have c3':w10.cell? ⟨w1.heap.size+1,3,s⟩=some (l AS m cS):=by
           rw [jc (a:=⟨w1.heap.size+1,3,s⟩) (hg9.block _ (by simp;omega) (fun q=>hzo q.symm)),jc (a:=⟨w1.heap.size+1,3,s⟩) (heap_alloc_old wr _ hzl)]
           exact z3
          have f3':w10.frozen? ⟨w1.heap.size+1,3,s⟩=false:=by
           rw [jf (a:=⟨w1.heap.size+1,3,s⟩) (hg9.block _ (by simp;omega) (fun q=>hzo q.symm)),jf (a:=⟨w1.heap.size+1,3,s⟩) (heap_alloc_old wr _ hzl)]
           exact zf
          have HOP9:=Hd (HOPC.out.dev HT9.out HNQ.out HAP.out hg9 (by simpa using hv9) hown9)
          have HKB9:=Hd ((((HKB.out.thenB HBW.out).alloc (E #[l AV t.2.length cV] 47)).grow hg9 (fun b q => .inl (.inr (HGS.out.lt b q).1))).set (g:=w1.heap.size+1) 3 v9 (.inl rfl))
          obtain ⟨A9,c9,rfl,-,-⟩:=zac hown9
          clear hown9 hg9 hv9 z3 zf
          go_wp2
          go_roundw
          case rel=>exact ⟨m+1,by omega,by go_num,_,_,HOP9.out,HKB9.out⟩
          case measure=>simp [intOf];omega
     · obtain rfl:m=xs.length:=by omega
       have hop:=HOP.out
       have hvsl:vs.length=xs.length:=hop.len
       obtain ⟨AS,cS,rfl,-,-⟩:=zac hop.outer
       have hkbB:Below w1.heap.size w3 wr:=HKB.out.below (by omega) (fun b q=>by rcases q with q | q <;> omega)
       have hb13:Below w1.heap.size w1 wr:=HB2.out.trans ((HB3.out.mono (by omega)).trans hkbB)
       have hrz:Row wr (w.heap.size+1) 42 [l s 0 0,l s 0 0,l s 0 0,l s 0 0]:=(hb13.block _ (by omega)).trans ((HB1.out.block _ (by omega)).trans HRZ.out)
       have hzs:∀ v∈[l s 0 0,l s 0 0,l s 0 0,l s 0 0],∃ A n c,v=l A n c:=by
        intro v hv
        simp only [jk,jl,or_false] at hv
        rcases hv with rfl | rfl | rfl | rfl <;> exact ⟨_,_,_,rfl⟩
       have hnz:¬ some (w.heap.size+1)∈roles (l AP L.length cP) (l AS xs.length cS) vs:=fun q=>by have:=(hop.lt _ q).1;omega
       have hoff:OffS wr w3.heap.size (l AP L.length cP) (l AS xs.length cS) vs L.length (pubG L rev) (TB.map (·.2.length)) (fun i k=>SbM.new (inD TB i k:Int) rev):=OpnS.off (s7 := l A7 L.length c7) (s8 := l A8 xs.length c8) (z:=w1.heap.size+1) (by rw [hTBl];exact hop)
       have hoth:∀ b,b≠w.heap.size+1→(sets (w.heap.size+1) wr [(0,l A7 L.length c7),(1,l A8 xs.length c8),(2,l AP L.length cP),(3,l AS xs.length cS)]).heap[b]? = wr.heap[b]? := fun b hb=>zaf (w.heap.size+1) _ wr b hb
       have HFIN:=Hd (show Opened w (sets (w.heap.size+1) wr [(0,l A7 L.length c7),(1,l A8 xs.length c8),(2,l AP L.length cP),(3,l AS xs.length cS)]) L TB A7 A8 c7 c8 w3.heap.size w1.heap.size (l AP L.length cP) (l AS xs.length cS) vs rev from
        { k7:=⟨k1,k2⟩,k8:=⟨hk8,k4⟩,
          pubs:=ziZ (Rws.mono PubR.mono (Y _) hb13 HRR7.out) hrz hzs hoth,
          tabs:=zje (Rws.mono TabRr.mono (Y _) hb13 HRR8.out) (fun b o q e=>by have:=HA8.out b o q;omega) hrz hzs hoth,
          b1:=by omega,off:=hoff.box hrz hzs hnz _,len:=by omega,rev:=hrev,
          bel:=zak (g:=w.heap.size+1) (by omega) [(0,l A7 L.length c7),(1,l A8 xs.length c8),(2,l AP L.length cP),(3,l AS xs.length cS)] wr (HB.out.trans ((HB1.out.mono hs01).trans (hb13.mono (by omega)))),
          lo:=⟨by omega,by rw [zbw];exact hwr⟩ })
       obtain ⟨x0,x1,x2,x3⟩:=kr4 hop.row
       obtain ⟨z0,z1,z2,z3⟩:=kr4 hrz;obtain ⟨zf0,zf1,zf2,zf3⟩:=kq4 hrz
       have lz:=hrz.lt
       have lo1:=hop.row.lt
       have hmi:¬ ((xs.length:Int)<(xs.length:Int)):=by omega
       have hTB3:=Hd hTBl
       clear hrz hop hoff hkbB hb13 hoth hnz hml hvsl hTBl
       go_wp2
       refine bodyPost_ret (v := .tuple #[U #[l A7 L.length c7,l A8 xs.length c8,l AP L.length cP,l AS xs.length cS],C true]) (by simp [results,Tryz.results6,go_sem,z0,z1,z2,z3]) rfl ?_
       rw [HLL.out,HTT.out]
       exact ⟨A7,A8,c7,c8,w3.heap.size,w1.heap.size,_,_,by rw [hTB3.out],vs,rev,HFIN.out⟩
end Go.Proofs.YtjkimieapfbhbaaGreatDoor
