/-
 Words for memory over a set of blocks: rows of elements; what a later world keeps of them; what stays but for some blocks.
-/
import Derived.Test.YtjkimieapfbhbaaGreatDoorKTexts
import Derived.Test.YtjkimieapfbhbaaGreatDoorKDup
import Derived.Laws.MakeOwn
import Derived.Test.YtjkimieapfbhbaaGreatDoorKSnP
open Go.IntKind renaming i64 → C
open Go.Value renaming int → D, slice → E, bool → F, string → H, agg → O
open Option renaming none → G
open Go.Obj renaming cells → I
open Go.Proofs.Tryz renaming prog → J
open Go.Ending renaming returned → L
open Nat renaming le_refl → M, lt_of_lt_of_le → U, le_trans → V, zero_le → Z, not_lt_zero → ja
namespace Go.Proofs.YtjkimieapfbhbaaGreatDoor
open Go.RowKit
def KeepOn (S:Nat→Prop) (w w':World):Prop:=∀ b,S b→w'.heap[b]? = w.heap[b]?
theorem KeepOn.refl (S:Nat→Prop) (w:World):KeepOn S w w:=fun _ _=>rfl
theorem KeepOn.trans {S:Nat→Prop} {a b c:World} (h:KeepOn S a b) (k:KeepOn S b c):KeepOn S a c:=fun i hi=>(k i hi).trans (h i hi)
theorem KeepOn.mono {S T:Nat→Prop} {a b:World} (h:KeepOn T a b) (hs:∀ i,S i→T i):KeepOn S a b:=fun i hi=>h i (hs i hi)
theorem zbc {S:Nat→Prop} {B:Nat} {w w':World} (h:Below B w w') (hS:∀ b,S b→b<B):KeepOn S w w':=fun b hb=>h.block b (hS b hb)
theorem zlM {S:Nat→Prop} {row:Option Nat} {w w':World} (h:w.grownBy w' row) (hS:∀ b,S b→b<w.heap.size∧some b≠row):KeepOn S w w':=fun b hb=>h.block b (hS b hb).1 (hS b hb).2
theorem KeepOn.range {S:Nat→Prop} {w w':World} {b o:Nat} {cs:List Value} (h:KeepOn S w w') (hb:S b) (hr:w.rangeAt b o cs):w'.rangeAt b o cs:=
 fun j v hv=>(World.cell?_of_block (a:=⟨b,o+j,G⟩) (h b hb)).trans (hr j v hv)
def zdj {α:Type} (R:World→(Nat→Prop)→List Value→α→Prop):Prop:=∀ w w' S S' cs x,(∀ b,S b→S' b)→KeepOn S w w'→R w S cs x→R w' S' cs x
def Rw {α:Type} (R:World→(Nat→Prop)→List Value→α→Prop) (size:Nat) (w:World) (S:Nat→Prop) (A:Option Addr) (n:Nat) (xs:List α):Prop:=
 xs.length=n∧(0<n→∃ b o,A=some ⟨b,o,G⟩∧S b∧∀ k x,xs[k]? = some x→∃ cs,cs.length=size∧R w S cs x∧w.rangeAt b (o+k*size) cs)
theorem Rw.mono {α:Type} {R:World→(Nat→Prop)→List Value→α→Prop} (hR:zdj R) {size n:Nat} {S S':Nat→Prop} {w w':World} {A:Option Addr} {xs:List α} (hS:∀ b,S b→S' b) (hk:KeepOn S w w') (h:Rw R size w S A n xs):Rw R size w' S' A n xs:=by
 refine ⟨h.1,fun hn => ?_⟩
 obtain ⟨b,o,e,hb,hr⟩:=h.2 hn;refine ⟨b,o,e,hS b hb,fun k x hx => ?_⟩
 obtain ⟨cs,hl,hc,hat⟩:=hr k x hx;exact ⟨cs,hl,hR _ _ _ _ _ _ hS hk hc,hk.range hb hat⟩
theorem Rw.at_ {α:Type} {R:World→(Nat→Prop)→List Value→α→Prop} {size n:Nat} {S:Nat→Prop} {w:World} {A:Option Addr} {xs:List α} (h:Rw R size w S A n xs) {k:Nat} (hk:k<n) :
 ∃ b o cs x,A=some ⟨b,o,G⟩∧S b∧xs[k]? = some x∧cs.length=size∧R w S cs x∧w.rangeAt b (o+k*size) cs:=by
 obtain ⟨b,o,e,hb,hr⟩:=h.2 (by omega);have hl:k<xs.length:=by have:=h.1;omega
 obtain ⟨cs,h1,h2,h3⟩:=hr k _ (List.getElem?_eq_getElem hl);exact ⟨b,o,cs,_,e,hb,List.getElem?_eq_getElem hl,h1,h2,h3⟩
theorem Rw.nil {α:Type} {R:World→(Nat→Prop)→List Value→α→Prop} {size:Nat} {S:Nat→Prop} {w:World} {A:Option Addr}:Rw R size w S A 0 []:=⟨rfl,fun h=>absurd h (Nat.lt_irrefl 0)⟩
theorem Rw.imp {α:Type} {R R':World→(Nat→Prop)→List Value→α→Prop} {size n:Nat} {S:Nat→Prop} {w:World} {A:Option Addr} {xs:List α} (h:Rw R size w S A n xs) (hR:∀ cs x,x∈xs→R w S cs x→R' w S cs x):Rw R' size w S A n xs:=by
 refine ⟨h.1,fun hn => ?_⟩
 obtain ⟨b,o,e,hb,hr⟩:=h.2 hn;refine ⟨b,o,e,hb,fun k x hx => ?_⟩
 obtain ⟨cs,hl,hc,hat⟩:=hr k x hx;exact ⟨cs,hl,hR cs x (List.mem_of_getElem? hx) hc,hat⟩
theorem Rw.of_own {α:Type} {R:World→(Nat→Prop)→List Value→α→Prop} {size base n c:Nat} {e:TypeId} {w:World} {S:Nat→Prop} {A:Option Addr} {xs:List α} {f:α→List Value}
 (h:w.ownsRow base e size (E A n c) n (xs.flatMap f)) (hn:xs.length=n) (hf:∀ x∈xs,(f x).length=size) (hR:∀ x∈xs,R w S (f x) x) (hS:∀ b,base≤b→b<w.heap.size→S b):Rw R size w S A n xs:=by
 have h0:Rws (fun w' _ cs x=>R w' S cs x) size w w.heap.size A n xs:=Rws.of_own (f:=f) (base:=base) (e:=e) (c:=c) h hn hf hR;refine ⟨hn,fun hpos => ?_⟩
 obtain ⟨g,cap,hv,hlo,hlt⟩:=h.form hpos;obtain ⟨b,o,e1,hlt',hr⟩:=h0.2 hpos;have hA:A=some ⟨g,0,G⟩:=by injection hv
 subst hA;injection e1 with e1
 injection e1 with e1 e2
 subst e1;subst e2;exact ⟨g,0,rfl,hS g hlo hlt,hr⟩
structure KB (S:Nat→Prop) (w w':World):Prop where
 os:w'.os=w.os
 tape:w'.tape=w.tape
 output:w'.output=w.output
 size:w.heap.size≤w'.heap.size
 block:∀ b,b<w.heap.size→¬ S b→w'.heap[b]? = w.heap[b]?
theorem KB.refl (S:Nat→Prop) (w:World):KB S w w:=⟨rfl,rfl,rfl,M _,fun _ _ _=>rfl⟩
theorem KB.trans {S:Nat→Prop} {a b c:World} (h:KB S a b) (k:KB S b c):KB S a c:=
 ⟨k.os.trans h.os,k.tape.trans h.tape,k.output.trans h.output,V h.size k.size,fun i hi hn=>(k.block i (U hi h.size) hn).trans (h.block i hi hn)⟩
theorem KB.of_below {S:Nat→Prop} {w w':World} (h:Below w.heap.size w w'):KB S w w':=⟨h.os,h.tape,h.output,h.size,fun b hb _=>h.block b hb⟩
theorem KB.of_grown {S:Nat→Prop} {w w':World} {row:Option Nat} (h:w.grownBy w' row) (hr:∀ b,b<w.heap.size→row=some b→S b):KB S w w':=⟨h.os,h.tape,h.output,h.size,fun b hb hn=>h.block b hb (fun q=>hn (hr b hb q.symm))⟩
theorem KB.mono {S T:Nat→Prop} {w w':World} (h:KB S w w') (hS:∀ b,b<w.heap.size→S b→T b):KB T w w':=⟨h.os,h.tape,h.output,h.size,fun b hb hn=>h.block b hb (fun q=>hn (hS b hb q))⟩
theorem KB.below {S:Nat→Prop} {w w':World} {B:Nat} (h:KB S w w') (hB:B≤w.heap.size) (hS:∀ b,S b→B≤b):Below B w w' :=
 ⟨h.os,h.tape,h.output,h.size,fun b hb=>h.block b (U hb hB) (fun q=>by have:=hS b q;omega)⟩
theorem KB.keep {S T:Nat→Prop} {w w':World} (h:KB S w w') (hT:∀ b,T b→b<w.heap.size∧¬ S b):KeepOn T w w':=fun b hb=>h.block b (hT b hb).1 (hT b hb).2
theorem KB.cell {S:Nat→Prop} {w w':World} {b o:Nat} (h:KB S w w') (hb:b<w.heap.size) (hS:¬ S b):w'.cell? ⟨b,o,G⟩=w.cell? ⟨b,o,G⟩:=World.cell?_of_block (a:=⟨b,o,G⟩) (h.block b hb hS)
theorem KB.drew {S:Nat→Prop} {w w':World} (h:KB S w w'):KB S w w'.drew:=⟨h.os,h.tape,h.output,h.size,h.block⟩
theorem KB.drewN {S:Nat→Prop} {w w':World} (h:KB S w w') (n:Nat):KB S w (w'.drewN n):=⟨h.os,h.tape,h.output,h.size,h.block⟩
theorem KB.alloc {S:Nat→Prop} {w w':World} (h:KB S w w') (o:Obj):KB S w (w'.alloc o):=h.trans (KB.of_below ((Below.refl _ _).alloc (M _) o))
theorem KB.set {S:Nat→Prop} {w w':World} (h:KB S w w') {g:Nat} (i:Nat) (v:Value) (hg:S g):KB S w (w'.setCell ⟨g,i,G⟩ v):=
 ⟨h.os,h.tape,h.output,by rw [World.size_setCell];exact h.size,fun b hb hn=>(heap_setCell_other w' ⟨g,i,G⟩ b v (fun q=>hn (by rw [q];exact hg))).trans (h.block b hb hn)⟩
theorem KB.grow {X:Nat→Prop} {w wr w2:World} {row:Option Nat} (h:KB X w wr) (hg:wr.grownBy w2 row) (hr:∀ b,row=some b→X b∨w.heap.size≤b):KB X w w2:=
 ⟨hg.os.trans h.os,hg.tape.trans h.tape,hg.output.trans h.output,V h.size hg.size,fun b hb hn=>(hg.block b (U hb h.size) fun q=>(hr b q.symm).elim hn (fun z=>by omega)).trans (h.block b hb hn)⟩
theorem KB.kb {X Y:Nat→Prop} {w wr w2:World} (h:KB X w wr) (k:KB Y wr w2) (hY:∀ b,Y b→X b∨w.heap.size≤b):KB X w w2:=
 ⟨k.os.trans h.os,k.tape.trans h.tape,k.output.trans h.output,V h.size k.size,fun b hb hn=>(k.block b (U hb h.size) fun q=>(hY b q).elim hn (fun z=>by omega)).trans (h.block b hb hn)⟩
theorem KB.thenB {X:Nat→Prop} {w wr w2:World} (h:KB X w wr) (k:Below wr.heap.size wr w2):KB X w w2:=h.trans (KB.of_below k)
theorem KB.setAt {X:Nat→Prop} {w wr:World} (h:KB X w wr) {g:Nat} (hg:X g∨w.heap.size≤g) (i:Nat) (v:Value):KB X w (wr.setCell ⟨g,i,G⟩ v):=
 ⟨h.os,h.tape,h.output,by rw [World.size_setCell];exact h.size,fun b hb hn=>(heap_setCell_other wr ⟨g,i,G⟩ b v (fun q=>by
  rcases hg with hg | hg
  · exact hn (by rw [show b=g from q];exact hg)
  · have:b=g:=q
    omega)).trans (h.block b hb hn)⟩
set_option maxRecDepth 100000
set_option maxHeartbeats 8000000
theorem zfU {P:Program} (w:World) (dT sT ty elem:TypeId) (k g dLen dCap:Nat) (a:Addr) (sLen sCap:Nat) (cur:Array Value) (t:TypeId) (cs:List Value) (m:Nat)
 (hu:P.underlying dT=some (.slice elem)) (hs:(P.info? elem).map (·.size)=some k)
 (hg:w.heap[g]? = some (.cells cur t (0,0))) (hm:m=Nat.min sLen dLen) (hn:cs.length=m*k)
 (hsrc:∀ j v,cs[j]? = some v→w.cell? (a.add j)=some v) (hfit:cs.length≤cur.size) (h1:∀ v∈cs,v.oneCell'=true) :
 (Builtin.copy_ #[dT,sT] ty #[E (some ⟨g,0,G⟩) dLen dCap,E (some a) sLen sCap]).run P w =
  .ok (goInt m) (w.setRow g (cur.toList.take 0++cs++cur.toList.drop (0+cs.length)).toArray):=by
 have hl:=run_loadCells_list (P:=P) w a cs hsrc;have hst:=run_storeCells_at P g 0 t cs 0 cur w hg (by simpa using hfit) h1
 cases hq:P.info? elem with
 | none=>simp [hq] at hs
 | some i =>
   have hi:i.size=k:=by simpa [hq] using hs
   simp only [hn] at hl
   simp [Builtin.copy_,run_underlying hu,Builtin.lenOf,Builtin.firstCells,sizeOf,typeInfo,hq,hi,← hm,hl,hst]
theorem ze1 {P:Program} (w:World) (dT sT ty elem:TypeId) (k:Nat) (d a:Option Addr) (dLen dCap sLen sCap:Nat) (hu:P.underlying dT=some (.slice elem)) (hs:(P.info? elem).map (·.size)=some k) (hn:Nat.min sLen dLen=0) :
 (Builtin.copy_ #[dT,sT] ty #[E d dLen dCap,E a sLen sCap]).run P w = .ok (goInt 0) w:=by
 cases hq:P.info? elem with
 | none=>simp [hq] at hs
 | some i =>
   have hl:∀ (x:Addr),(loadCells x 0).run P w = .ok #[] w:=fun x=>by simpa using run_loadCells_list (P:=P) w x [] (by simp)
   cases d <;> cases a <;> simp [Builtin.copy_,run_underlying hu,Builtin.lenOf,Builtin.firstCells,sizeOf,typeInfo,hq,hn,storeCells,hl]
theorem zjZ (w:World) (g:Nat) (cs:Array Value):KB (fun b=>b=g) w (w.setRow g cs):=
 ⟨rfl,rfl,rfl,by simp [World.setRow],fun k _ hn=>setRow_other w g k cs hn⟩
theorem ze4 {P:Program} {w:World} {ops:Array Oper} {rest:List Oper} {o:Oper} {a:Act} {Q:Exit→Act→World→Prop} (hgd:o.guard=G) (d s:Operand) (dT sT:TypeId)
 (ho:o.op = .call { callee := .builtin .copy,args := #[d,s],argTypes := #[dT,sT] }) (elem:TypeId) (k:Nat) (hu:P.underlying dT=some (.slice elem)) (hsz:(P.info? elem).map (·.size)=some k)
 (dp sp:Option Addr) (dLen dCap sLen sCap:Nat) (hd:a.eval d = E dp dLen dCap) (hs:a.eval s = E sp sLen sCap)
 (g:Nat) (cur:Array Value) (t:TypeId) (hg:w.heap[g]? = some (.cells cur t (0,0))) (cs:List Value) (m:Nat) (hm:m=Nat.min sLen dLen) (hn:cs.length=m*k)
 (hpos:0<m→dp=some ⟨g,0,G⟩∧∃ ad,sp=some ad∧∀ j v,cs[j]? = some v→w.cell? (ad.add j)=some v)
 (hfull:cs.length=cur.size) (h1:∀ v∈cs,v.oneCell'=true)
 (h:∀ w',Hid (w'.heap[g]? = some (.cells cs.toArray t (0,0)))→KB (fun b=>b=g) w w'→wpList P ops Q rest (a.put o.dst (goInt m)) w') :
 wpList P ops Q (o::rest) a w:=by
 refine wpList_plain hgd fun K hK => ?_
 unfold Oper.wp
 by_cases h0:m=0
 · subst h0
   have hcs:cs=[]:=List.eq_nil_of_length_eq_zero (by omega)
   subst hcs
   have hcur:cur = #[]:=Array.eq_empty_of_size_eq_zero (by simpa using hfull.symm)
   subst hcur
   have hrun:=ze1 (P:=P) w dT sT o.type elem k dp sp dLen dCap sLen sCap hu hsz (by rw [← hm])
   simp [execOp,ho,resolve,invoke,builtin,hd,hs,hrun,Result.andThen]
   exact hK _ _ (h w (show _=_ by simpa using hg) (KB.refl _ _))
 · obtain ⟨rfl,ad,rfl,hsrc⟩:=hpos (by omega)
   have hrun:=zfU (P:=P) w dT sT o.type elem k g dLen dCap ad sLen sCap cur t cs m hu hsz hg hm hn hsrc (by omega) h1
   have hx:cur.toList.take 0++cs++cur.toList.drop (0+cs.length)=cs:=by
    rw [List.take_zero,List.nil_append,List.drop_eq_nil_of_le (by rw [Array.length_toList];omega),List.append_nil]
   rw [hx] at hrun
   simp only [execOp,ho,resolve,invoke,builtin]
   simp [hd,hs,hrun,Result.andThen]
   exact hK _ _ (h _ (show _=_ from setRow_heap w g _ _ t _ hg) (zjZ w g _))
def truN (b:Bool):Int:=if b then 1 else 0
theorem truN_lo (b:Bool):0≤truN b∧truN b≤1:=by cases b <;> decide
theorem zmz (a b:Bool):(truN a == truN b)=(a == b):=by cases a <;> cases b <;> rfl
def valC (b:Bool):List Value:=[D C 1,D C (truN b),H ⟨#[]⟩,D C 0,D C 0,D C 0]
def zaT (bs:List Bool):List Value:=bs.flatMap valC
theorem zkH (bs:List Bool):(zaT bs).length=bs.length*6:=by
 induction bs with
 | nil=>rfl
 | cons b bs ih=>rw [zaT,List.flatMap_cons,List.length_append];unfold zaT at ih;rw [ih,List.length_cons];show 6+_=_;omega
theorem zbP (bs:List Bool):∀ u∈zaT bs,u.oneCell'=true:=by
 intro u hu;obtain ⟨b,-,hb⟩:=List.mem_flatMap.1 hu;simp only [valC,List.mem_cons,List.not_mem_nil,or_false] at hb
 rcases hb with rfl | rfl | rfl | rfl | rfl | rfl <;> rfl
def ValR (_:World) (_:Nat) (cs:List Value) (b:Bool):Prop:=cs=valC b
theorem ValR.mono:Mono ValR:=fun _ _ _ _ _ _ _ _ h=>h
theorem zcU {w:World} {B n:Nat} {A:Option Addr} {bs:List Bool} (h:Rws ValR 6 w B A n bs):Src w 6 A n (zaT bs):=by
 refine ⟨by rw [zkH,h.1],fun hn => ?_⟩
 obtain ⟨b,o,e,-,hr⟩:=h.2 hn;refine ⟨_,e,fun j u hu => ?_⟩
 rw [Addr.add_mid]
 have key:∀ (l:List Bool) (o:Nat),(∀ k x,l[k]? = some x→∃ cs,cs.length=6∧ValR w B cs x∧w.rangeAt b (o+k*6) cs)→∀ j u,(zaT l)[j]? = some u→w.cell? ⟨b,o+j,G⟩=some u:=by
  intro l
  induction l with
  | nil=>intro o _ j u hu;simp [zaT] at hu
  | cons x l ih =>
    intro o hr j u hu
    rw [zaT,List.flatMap_cons] at hu
    rcases Nat.lt_or_ge j 6 with hj | hj
    · rw [List.getElem?_append_left (by show j<6;exact hj)] at hu
      obtain ⟨cs,-,rfl,hat⟩:=hr 0 x rfl
      have:=hat j u hu
      simpa using this
    · rw [List.getElem?_append_right (by show 6≤j;exact hj)] at hu
      have h2:=ih (o+6) (fun k x hx=>by
       obtain ⟨cs,h1,h2,h3⟩:=hr (k+1) x (by simpa using hx)
       exact ⟨cs,h1,h2,by rw [show o+6+k*6=o+(k+1)*6 by omega];exact h3⟩) (j-6) u hu
      rw [show o+j=o+6+(j-6) by omega]
      exact h2
 exact key bs o hr j u hu
theorem zhu:(Tryz.prog.info? 73).map (fun i=>(i.zero,i.size,i.bytes))=some (some (O #[D C 0,D C 0,H ⟨#[]⟩,D C 0,D C 0,D C 0]),6,56):=by kernel_rfl
theorem zmh:(Tryz.prog.info? 73).map (·.size)=some 6:=by kernel_rfl
theorem zfn (A:Option Addr) (c n:Nat) (cells:List Value) (w:World) (hs:Src w 6 A n cells) (hA:A=G→n=0) (h1:∀ u∈cells,u.oneCell'=true) (hn:n≤100000) :
 Calls J 47 #[E A n c] w (RetRow 73 6 n cells w):=by
 obtain ⟨i0,hi,hz0,hz1,hz2⟩:=info_parts zhu;have hnil:=fun wx=>Lib.run_eql_slice_nil (P := J) wx 76 73 A n c 0 0 Tryz.underlying76
 cases A with
 | none =>
   obtain rfl:=hA rfl
   have hc:cells=[]:=List.eq_nil_of_length_eq_zero (by simpa using hs.1)
   subst hc
   go_enter Tryz.func47,Tryz.ntmps47
   go_wp2
   go_ret
   exact RetRow.mk (World.ownsRow_nil _ w.heap.size _ _) (M _) (Below.refl _ _)
 | some ad =>
   have hs2:Src (w.alloc (I #[] 73)) 6 (some ad) n cells:=⟨hs.1,fun hpos=>by
    obtain ⟨ad',e,hcell⟩:=hs.2 hpos
    exact ⟨ad',e,fun j u hu=>by rw [World.cell?_alloc_lt w _ _ (block_lt_of_cell (hcell j u hu))];exact hcell j u hu⟩⟩
   have hown:(w.alloc (I #[] 73)).ownsRow w.heap.size 73 6 (E (some ⟨w.heap.size,0,G⟩) 0 0) 0 []:=World.ownsRow_made w #[] 0 (M _) (Z _) rfl
   have hb:=zaa w (I #[] 73)
   have HS:=Hd hs2
   have HO:=Hd hown
   clear hs hs2 hown hA
   go_enter Tryz.func47,Tryz.ntmps47
   go_wp2_with (first
    | (at_builtin;refine zbV _ _ 76 rfl rfl Tryz.underlying76 hi hz0 hz1 hz2 rfl (by decide) rfl HO.out hb rfl HS.out h1 (by unfold maxLen;omega) (by omega) (by simp) ?_;intro v' w' hown' hbel' _))
   go_ret
   exact RetRow.mk (by simpa using hown') (M _) hbel'
theorem zdm (A:Option Addr) (c n:Nat) (cells:List Value) (w:World) (hs:Src w 6 A n cells) (h1:∀ u∈cells,u.oneCell'=true) (hn:n≤1000) :
 Calls J 40 #[E A n c] w (RetRow 73 6 n cells w):=by
 obtain ⟨i0,hi,hz0,hz1,hz2⟩:=info_parts zhu;have hmk:=fun W=>run_makeSlice (P := J) (w:=W) 76 73 i0 _ Tryz.underlying76 hi hz0 C C (n:Int) (n:Int) (by omega) (Int.le_refl _) (by rw [hz1];omega) (by rw [hz2];omega) (by omega)
 rw [hz1,Int.toNat_natCast] at hmk;obtain ⟨cur,hcur⟩:∃ cur,madeCells (Value.agg #[D C 0,D C 0,H ⟨#[]⟩,D C 0,D C 0,D C 0]).cells (n*6)=cur:=⟨_,rfl⟩;have hcs:cur.size=n*6:=by rw [← hcur];exact size_madeCells _ _
 rw [hcur] at hmk;have HCS:=Hd hcs;have HL:=Hd hs.1;have hb:=zaa w (I cur 73);have hg:(w.alloc (I cur 73)).heap[w.heap.size]? = some (.cells cur 73 (0,0)):=heap_alloc_new _ _;have HG:=Hd hg
 have HS:=Hd (show 0<n→∃ ad,A=some ad∧∀ j v,cells[j]? = some v→(w.alloc (I cur 73)).cell? (ad.add j)=some v from fun hpos=>by
  obtain ⟨ad,e,hc⟩:=hs.2 hpos;exact ⟨ad,e,fun j u hu=>by rw [World.cell?_alloc_lt w _ _ (block_lt_of_cell (hc j u hu))];exact hc j u hu⟩)
 clear hcs hcur hs hg hi hz0 hz1 hz2;go_enter Tryz.func40,Tryz.ntmps40
 go_wp2_with (first
  | (refine ze4 (o:=⟨some 9,_,_,_,_,_⟩) rfl _ _ 76 76 rfl 73 6 Tryz.underlying76 zmh _ _ _ _ _ _ rfl rfl w.heap.size _ 73 HG.out cells n (Nat.min_self _).symm HL.out (fun h=>⟨rfl,HS.out h⟩) (by rw [HCS.out];exact HL.out) h1 ?_;intro w8 hh8 hk8;have HK8:=Hd hk8;clear hk8))
 go_ret
 refine RetRow.mk (base:=w.heap.size) ?_ (M _) ?_
 · refine ⟨HL.out,.inr ⟨w.heap.size,n,cells.toArray,rfl,M _,hh8.out,M _,by unfold maxLen;omega,by simpa using HL.out,?_⟩⟩
   rw [← HL.out]
   simp
 · exact hb.trans (HK8.out.below (by simp) fun b e=>Nat.le_of_eq e.symm)
structure LineM where
 name:ByteArray
 r1:Int
 x1:Int
 r0:Int
 x0:Int
structure SourceM where
 name:ByteArray
 emf:Int
 r1:Int
 x1:Int
 r0:Int
 x0:Int
structure BayM where
 name:ByteArray
 kind:Int
 ofi:Int
 en:Int
 zr:Int
 zx:Int
 links:List (Int × Int)
 closed:Bool
 ct:Int
 vt:Int
 sat:Int
 travel:Int
structure StatM where
 name:ByteArray
 buses:List ByteArray
 lines:List LineM
 sources:List SourceM
 bays:List BayM
def LineC (_:World) (_:Nat) (cs:List Value) (x:LineM):Prop:=cs=[H x.name,D C x.r1,D C x.x1,D C x.r0,D C x.x0]∧x.name.size≤maxLen
theorem LineC.mono:Mono LineC:=fun _ _ _ _ _ _ _ _ h=>h
def SourceC (_:World) (_:Nat) (cs:List Value) (x:SourceM):Prop:=cs=[H x.name,D C x.emf,D C x.r1,D C x.x1,D C x.r0,D C x.x0]∧x.name.size≤maxLen
theorem SourceC.mono:Mono SourceC:=fun _ _ _ _ _ _ _ _ h=>h
def LinkC (_:World) (_:Nat) (cs:List Value) (x:Int × Int):Prop:=cs=[D C x.1,D C x.2]
theorem LinkC.mono:Mono LinkC:=fun _ _ _ _ _ _ _ _ h=>h
def BayC (w:World) (B:Nat) (cs:List Value) (x:BayM):Prop:=
 ∃ A c,cs=[H x.name,D C x.kind,D C x.ofi,D C x.en,D C x.zr,D C x.zx,E A x.links.length c,F x.closed,D C x.ct,D C x.vt,D C x.sat,D C x.travel] ∧
  x.name.size≤maxLen∧x.links.length≤c∧c≤maxLen∧Rws LinkC 2 w B A x.links.length x.links
theorem BayC.mono:Mono BayC:=by
 rintro w w' B B' cs x hB hb ⟨A,c,rfl,h1,h2,h3,h4⟩
 exact ⟨A,c,rfl,h1,h2,h3,h4.mono LinkC.mono hB hb⟩
structure StAt where
 A1:Option Addr
 A2:Option Addr
 A3:Option Addr
 A4:Option Addr
 c1:Nat
 c2:Nat
 c3:Nat
 c4:Nat
structure StC (w:World) (B:Nat) (p:StAt) (S:StatM):Prop where
 name:S.name.size≤maxLen
 k1:S.buses.length≤p.c1∧p.c1≤maxLen
 k2:S.lines.length≤p.c2∧p.c2≤maxLen
 k3:S.sources.length≤p.c3∧p.c3≤maxLen
 k4:S.bays.length≤p.c4∧p.c4≤maxLen
 buses:Rws StrC 1 w B p.A1 S.buses.length S.buses
 lines:Rws LineC 5 w B p.A2 S.lines.length S.lines
 sources:Rws SourceC 6 w B p.A3 S.sources.length S.sources
 bays:Rws BayC 12 w B p.A4 S.bays.length S.bays
theorem StC.mono {w w':World} {B B':Nat} {p:StAt} {S:StatM} (h:StC w B p S) (hB:B≤B') (hb:Below B w w'):StC w' B' p S:=
 ⟨h.name,h.k1,h.k2,h.k3,h.k4,h.buses.mono StrC.mono hB hb,h.lines.mono LineC.mono hB hb,h.sources.mono SourceC.mono hB hb,h.bays.mono BayC.mono hB hb⟩
structure ZoneM where
 on:Bool
 fw:Bool
 x:Int
 rt:Int
 lf:Int
 dl:Int
structure ElM where
 on:Bool
 a:Int
 b:Int
structure NumM where
 bay:Int
 z0:ZoneM
 z1:ZoneM
 z2:ZoneM
 mn:Int
 kre:Int
 kim:Int
 scheme:Int
 wait:Int
 guard:Int
 defi:ElM
 inv:ElM
 fail:ElM
 shots:Int
 dead:Int
 reclaim:Int
 under:ElM
 over:ElM
 diff:Int
 num:Int
 den:Int
 harm:Int
def ZoneM.cells (z:ZoneM):List Value:=[F z.on,F z.fw,D C z.x,D C z.rt,D C z.lf,D C z.dl]
def ElM.cells (e:ElM):List Value:=[F e.on,D C e.a,D C e.b]
def zbd (nm:ByteArray) (kind:Int) (n:NumM) (c49 c50 c51 c52:Value):List Value:=
 [H nm,D C kind,D C n.bay,
  F n.z0.on,F n.z0.fw,D C n.z0.x,D C n.z0.rt,D C n.z0.lf,D C n.z0.dl,
  F n.z1.on,F n.z1.fw,D C n.z1.x,D C n.z1.rt,D C n.z1.lf,D C n.z1.dl,
  F n.z2.on,F n.z2.fw,D C n.z2.x,D C n.z2.rt,D C n.z2.lf,D C n.z2.dl,
  D C n.mn,D C n.kre,D C n.kim,D C n.scheme,D C n.wait,D C n.guard,
  F n.defi.on,D C n.defi.a,D C n.defi.b,F n.inv.on,D C n.inv.a,D C n.inv.b,F n.fail.on,D C n.fail.a,D C n.fail.b,
  D C n.shots,D C n.dead,D C n.reclaim,F n.under.on,D C n.under.a,D C n.under.b,F n.over.on,D C n.over.a,D C n.over.b,
  D C n.diff,D C n.num,D C n.den,D C n.harm,c49,c50,c51,c52]
structure PubN where
 set:ByteArray
 first:Int
 max:Int
def PubNC (_:World) (_:Nat) (cs:List Value) (p:PubN):Prop:=cs=[H p.set,D C p.first,D C p.max]∧p.set.size≤maxLen
theorem PubNC.mono:Mono PubNC:=fun _ _ _ _ _ _ _ _ h=>h
structure RelayX where
 r:RelayM
 n:NumM
 pubs:List PubN
structure RelayXC (w:World) (B:Nat) (cs:List Value) (x:RelayX):Prop where
 base:RelayC w B cs x.r
 pubs:∃ c,cs[51]? = some c∧SliceOf PubNC 3 w B [c] x.pubs
 same:x.r.pubs=x.pubs.map (·.set)
 cells:∃ c49 c50 c51 c52,cs=zbd x.r.name x.r.kind x.n c49 c50 c51 c52
theorem RelayXC.mono:Mono RelayXC:=by
 intro w w' B B' cs x hB hb h;obtain ⟨c,e,s⟩:=h.pubs;exact ⟨RelayC.mono _ _ _ _ _ _ hB hb h.base,⟨c,e,SliceOf.mono PubNC.mono _ _ _ _ _ _ _ hB hb s⟩,h.same,h.cells⟩
theorem Rws.map {α β:Type} {R:World→Nat→List Value→α→Prop} {R':World→Nat→List Value→β→Prop} {f:α→β} {size B n:Nat} {w:World} {A:Option Addr} {xs:List α}
 (hf:∀ cs x,R w B cs x→R' w B cs (f x)) (h:Rws R size w B A n xs):Rws R' size w B A n (xs.map f):=by
 refine ⟨by rw [List.length_map];exact h.1,fun hn => ?_⟩
 obtain ⟨b,o,e,hb,hr⟩:=h.2 hn;refine ⟨b,o,e,hb,fun k y hy => ?_⟩
 rw [List.getElem?_map] at hy
 cases hx:xs[k]? with
 | none=>rw [hx] at hy;cases hy
 | some x =>
   rw [hx] at hy
   cases hy
   obtain ⟨cs,h1,h2,h3⟩:=hr k x hx
   exact ⟨cs,h1,hf cs x h2,h3⟩
def okAt (i:Nat) (c:UInt8):Bool:=(decide (65≤c.toNat) && decide (c.toNat≤90)) || (decide (97≤c.toNat) && decide (c.toNat≤122)) || (i != 0 && ((decide (48≤c.toNat) && decide (c.toNat≤57)) || c.toNat == 95))
def zgd (s:ByteArray) (k:Nat):Prop:=∀ (i:Nat) (c:UInt8),i<k→s.data[i]? = some c→okAt i c=true
structure NameOk (s:ByteArray):Prop where
 pos:1≤s.size
 len:s.size≤12
 ok:zgd s s.size
def StatM.names (S:StatM):List ByteArray:=S.buses++(S.lines.map (·.name)++(S.sources.map (·.name)++S.bays.map (·.name)))
def Ohm (r x:Int):Prop:=0≤r∧r≤1000∧1≤x∧x≤1000
def zel (x:SourceM):Prop:=(1≤x.emf∧x.emf≤1000000)∧Ohm x.r1 x.x1∧Ohm x.r0 x.x0
def zkP (x:LineM):Prop:=Ohm x.r1 x.x1∧Ohm x.r0 x.x0
def ObjF (S:StatM) (x:BayM):Prop:=(x.kind=1∧0≤x.ofi∧x.ofi<(S.lines.length:Int))∨(x.kind=2∧0≤x.ofi∧x.ofi<(S.sources.length:Int))∨(x.kind=3∧x.ofi=0)
def zge (x:BayM):Prop:=
 (0≤x.en∧(x.en=0∨(x.kind=1∧x.en=1)))∧((x.kind=3∧Ohm x.zr x.zx∧x.vt=0)∨(x.kind≠3∧x.zr=0∧x.zx=0∧1≤x.vt∧x.vt≤10000)) ∧
  (1≤x.ct∧x.ct≤100)∧(0≤x.sat∧x.sat≤16383)∧(1≤x.travel∧x.travel≤6)
def zgc (nb:Int) (x:BayM) (l:Int × Int):Prop:=(0≤l.1∧l.1<nb)∧(l.2=1∨(l.2=0∧x.kind≠3))
structure LinksF (nb:Int) (x:BayM):Prop where
 n:1≤x.links.length∧x.links.length≤2
 two:x.kind=3→x.links.length=2
 each:∀ (k:Nat) (l:Int × Int),x.links[k]? = some l→zgc nb x l
 apart:∀ (l m:Int × Int),x.links[0]? = some m→x.links[1]? = some l→l.1≠m.1
def zl4 (S:StatM) (i:Nat) (x:BayM):Prop:=x.kind=3∨∀ (k:Nat) (y:BayM),k<i→S.bays[k]? = some y→¬ (y.kind=x.kind∧y.ofi=x.ofi∧y.en=x.en)
structure BayF (S:StatM) (i:Nat) (x:BayM):Prop where
 obj:ObjF S x
 range:zge x
 twin:zl4 S i x
 links:LinksF S.buses.length x
structure StF (S:StatM):Prop where
 name:NameOk S.name
 n1:1≤S.buses.length∧S.buses.length≤4
 n2:S.lines.length≤6
 n3:S.sources.length≤4
 n4:S.bays.length≤16
 names:∀ (k:Nat) (x:ByteArray),S.names[k]? = some x→NameOk x∧seen S.names k x=false
 lines:∀ (k:Nat) (x:LineM),S.lines[k]? = some x→zkP x
 sources:∀ (k:Nat) (x:SourceM),S.sources[k]? = some x→zel x
 bays:∀ (k:Nat) (x:BayM),S.bays[k]? = some x→BayF S k x
def ElM.nil (e:ElM):Prop:=e.on=false∧e.a=0∧e.b=0
def ZoneM.nil (z:ZoneM):Prop:=z.on=false∧z.fw=false∧z.x=0∧z.rt=0∧z.lf=0∧z.dl=0
def ElM.Fits (e:ElM) (lo hi:Int):Prop:=(e.on=false∧e.nil)∨(e.on=true∧(1≤e.a∧e.a≤16383)∧(lo≤e.b∧e.b≤hi))
def ZoneM.Fits (z:ZoneM):Prop:=(z.on=false∧z.nil)∨(z.on=true∧(1≤z.x∧z.x≤4000)∧(0≤z.rt∧z.rt≤4000)∧(0≤z.lf∧z.lf≤4000)∧(0≤z.dl∧z.dl≤500))
structure ForeignF (k:Int) (n:NumM):Prop where
 line:k=1∨(n.z0.nil∧n.z1.nil∧n.z2.nil∧n.mn=0∧n.kre=0∧n.kim=0∧n.scheme=0∧n.wait=0∧n.guard=0∧n.shots=0∧n.dead=0∧n.reclaim=0)
 source:k=2∨(n.under.nil∧n.over.nil)
 bus:(k≠4∧n.diff=0∧n.num=0∧n.den=0∧n.harm=0)∨(k=4∧n.defi.nil∧n.inv.nil∧n.fail.nil)
structure ZonesF (n:NumM):Prop where
 z0:n.z0.Fits
 z1:n.z1.Fits
 z2:n.z2.Fits
 any:(n.z0.on=false∧n.z1.on=false∧n.z2.on=false∧n.mn=0∧n.kre=0∧n.kim=0) ∨
  ((n.z0.on=true∨n.z1.on=true∨n.z2.on=true)∧(1≤n.mn∧n.mn≤16383)∧(-200≤n.kre∧n.kre≤200)∧(-200≤n.kim∧n.kim≤200))
structure NumbersF (n:NumM):Prop where
 zones:ZonesF n
 scheme:0≤n.scheme∧n.scheme≤3
 guard:(n.scheme=0∧n.guard=0)∨(n.scheme≠0∧0≤n.guard∧n.guard≤50)
 wait:(n.scheme≠3∧n.wait=0)∨(n.scheme=3∧1≤n.wait∧n.wait≤50)
 defi:n.defi.Fits 0 500
 under:n.under.Fits 0 500
 over:n.over.Fits 0 500
 fail:n.fail.Fits 1 500
 inv:n.inv.Fits 1 1000
 shots:(n.shots=0∧n.dead=0∧n.reclaim=0)∨((1≤n.shots∧n.shots≤3)∧(1≤n.dead∧n.dead≤100)∧(1≤n.reclaim∧n.reclaim≤1000))
 diff:(n.diff=0∧n.num=0∧n.den=0∧n.harm=0)∨((1≤n.diff∧n.diff≤16383)∧(1≤n.den∧n.den≤100)∧(0≤n.num∧n.num≤n.den)∧(0≤n.harm∧n.harm≤100))
def zek (n:NumM):Prop:=
 (n.scheme=1∧n.z0.on=true∧n.z0.fw=true∧n.z1.on=true∧n.z1.fw=true)∨(n.scheme=2∧n.z1.on=true∧n.z1.fw=true) ∨
 (n.scheme=3∧n.z1.on=true∧n.z1.fw=true∧n.z2.on=true∧n.z2.fw=false)∨(n.scheme≠1∧n.scheme≠2∧n.scheme≠3)
structure CountF (r:RelayM):Prop where
 rules:r.rules.length≤16
 sets:r.sets.length≤4
 pubs:r.pubs.length≤4
 subs:r.subs.length≤24
 sigs:∀ (k:Nat) (d:ByteArray × List ByteArray),r.sets[k]? = some d→1≤d.2.length∧d.2.length≤24
def PlaceF (S:StatM) (xs:List RelayX) (i:Nat) (x:RelayX):Prop:=
 ((x.r.kind=4∧x.n.bay = -1)∨((x.r.kind=1∨x.r.kind=2∨x.r.kind=3)∧0≤x.n.bay∧∃ b,S.bays[x.n.bay.toNat]? = some b∧b.kind=x.r.kind)) ∧
 ∀ (k:Nat) (y:RelayX),k<i→xs[k]? = some y→y.n.bay≠x.n.bay
def zl3 (s:ByteArray):Prop:=s.size≤120∧∀ (i:Nat) (c:UInt8),s.data[i]? = some c→32≤c.toNat∧c.toNat≤126∧c.toNat≠34
def zaq:List ByteArray:=[⟨#[116,114,117,101]⟩,⟨#[102,97,108,115,101]⟩,⟨#[110,111,116]⟩,⟨#[97,110,100]⟩,⟨#[111,114]⟩,⟨#[120,111,114]⟩,⟨#[109,105,110]⟩,⟨#[109,97,120]⟩,⟨#[97,98,115]⟩,⟨#[105,102]⟩,⟨#[114,105,115,101]⟩,⟨#[102,97,108,108]⟩,⟨#[100,101,108,97,121]⟩,⟨#[104,111,108,100]⟩,⟨#[108,97,116,99,104]⟩,⟨#[99,111,117,110,116]⟩]
structure RuleF (rs:List (ByteArray × ByteArray)) (k:Nat) (x:ByteArray × ByteArray):Prop where
 name:NameOk x.1
 free:seen zaq zaq.length x.1=false
 apart:seen (rs.map (·.1)) k x.1=false
 text:zl3 x.2
structure SetF (ss:List (ByteArray × List ByteArray)) (k:Nat) (x:ByteArray × List ByteArray):Prop where
 name:NameOk x.1
 sigs:∀ (j:Nat) (y:ByteArray),x.2[j]? = some y→NameOk y
 apart:seen (ss.map (·.1)) k x.1=false
structure PubF (ps:List PubN) (k:Nat) (x:PubN):Prop where
 name:NameOk x.set
 apart:seen (ps.map (·.set)) k x.set=false
 first:1≤x.first∧x.first≤100
 max:x.first≤x.max∧x.max≤1000
structure SubF (us:List SubM) (k:Nat) (x:SubM):Prop where
 loc:NameOk x.loc
 device:NameOk x.device
 set:NameOk x.set
 signal:NameOk x.signal
 apart:seen (us.map (·.loc)) k x.loc=false
structure ListsF (x:RelayX):Prop where
 sets:∀ (k:Nat) (y:ByteArray × List ByteArray),x.r.sets[k]? = some y→SetF x.r.sets k y
 pubs:∀ (k:Nat) (y:PubN),x.pubs[k]? = some y→PubF x.pubs k y
 subs:∀ (k:Nat) (y:SubM),x.r.subs[k]? = some y→SubF x.r.subs k y
structure RelF (S:StatM) (xs:List RelayX) (i:Nat) (x:RelayX):Prop where
 name:NameOk x.r.name
 free:seen S.names S.names.length x.r.name=false
 apart:seen (xs.map (·.r.name)) i x.r.name=false
 place:PlaceF S xs i x
 foreign:ForeignF x.r.kind x.n
 numbers:NumbersF x.n
 scheme:zek x.n
 count:CountF x.r
 rules:∀ (k:Nat) (y:ByteArray × ByteArray),x.r.rules[k]? = some y→RuleF x.r.rules k y
 lists:ListsF x
def zkR (S:StatM) (xs:List RelayX):Prop:=∀ (i:Nat) (x:RelayX),xs[i]? = some x→RelF S xs i x
def inB (n lo hi:Int):Bool:=decide (lo≤n∧n≤hi)
theorem zaF {n lo hi:Int}:inB n lo hi=true↔lo≤n∧n≤hi:=by simp [inB]
theorem zcZ {n lo hi:Int}:inB n lo hi=false↔¬ (lo≤n∧n≤hi):=by rw [← Bool.not_eq_true,zaF]
theorem zcV {a b:Bool} (h:b=a):Ending.returned (F a) = L (F b):=by rw [h]
theorem zdq (n lo hi:Int) (w:World):Calls J 51 #[D C n,D C lo,D C hi] w fun e w'=>e = L (F (inB n lo hi))∧w=w':=by
 by_cases h1:lo≤n
 · by_cases h2:n≤hi
   · go_enter Tryz.func51,Tryz.ntmps51
     go_wp2
     go_ret
     exact ⟨zcV (zaF.2 ⟨h1,h2⟩),rfl⟩
   · go_enter Tryz.func51,Tryz.ntmps51
     go_wp2
     go_ret
     exact ⟨zcV (zcZ.2 (by omega)),rfl⟩
 · go_enter Tryz.func51,Tryz.ntmps51
   go_wp2
   go_ret
   exact ⟨zcV (zcZ.2 (by omega)),rfl⟩
def BoolSays (P:Prop) (w:World) (e:Ending) (w':World):Prop:=∃ b:Bool,(b=true→P)∧e = L (F b)∧Below w.heap.size w w'
theorem BoolSays.no {P:Prop} {w w':World} (h:Below w.heap.size w w'):BoolSays P w (L (F false)) w':=⟨false,fun h=>absurd h (by decide),rfl,h⟩
theorem BoolSays.of {P:Prop} {b:Bool} {w w':World} (h:Below w.heap.size w w') (hp:b=true→P):BoolSays P w (L (F b)) w':=⟨b,hp,rfl,h⟩
theorem zcA (r x:Int) (w:World):Calls J 30 #[O #[D C r,D C x]] w (BoolSays (Ohm r x) w):=by
 cases h1:inB r 0 1000
 all_goals cases h2:inB x 1 1000
 all_goals
  go_enter Tryz.func30,Tryz.ntmps30;go_wp2_with (go_at_call 51;refine (zdq _ _ _ _).mono ?_;rintro e w' ⟨rfl,rfl⟩)
  go_ret
  first
   | exact BoolSays.no (zaa _ _)
   | exact BoolSays.of (zaa _ _) fun _=>⟨(zaF.1 h1).1,(zaF.1 h1).2,(zaF.1 h2).1,(zaF.1 h2).2⟩
def ErrSays (P:Prop) (w:World) (e:Ending) (w':World):Prop:=∃ n:Int,(n=0→P)∧e = L (D C n)∧Below w.heap.size w w'
theorem ErrSays.no {P:Prop} {n:Int} {w w':World} (h:Below w.heap.size w w') (hn:n≠0):ErrSays P w (L (D C n)) w':=⟨n,fun h=>absurd h hn,rfl,h⟩
theorem ErrSays.of {P:Prop} {n:Int} {w w':World} (h:Below w.heap.size w w') (hp:n=0→P):ErrSays P w (L (D C n)) w':=⟨n,hp,rfl,h⟩
theorem zbq (w:World) (a b:Obj):Below w.heap.size w ((w.alloc a).alloc b):=(zaa w a).alloc (by simp) b
theorem Below.then {w a b:World} (h:Below w.heap.size w a) (k:Below a.heap.size a b):Below w.heap.size w b:=h.trans (k.mono h.size)
theorem zgS (x:SourceM) (w:World):Calls J 31 #[O #[H x.name,D C x.emf,D C x.r1,D C x.x1,D C x.r0,D C x.x0]] w (BoolSays (zel x) w):=by
 go_enter Tryz.func31,Tryz.ntmps31
 go_wp2_with (first
  | (go_at_call 51;refine (zdq _ _ _ _).mono ?_;rintro e w' ⟨rfl,rfl⟩;cases h1:inB x.emf 1 1000000)
  | (go_at_call 30;(with_reducible refine (zcA x.r1 x.x1 _).mono ?_);rintro e w2 ⟨b1,q1,rfl,k1⟩;obtain ⟨hc1,hf1⟩:=zcv k1;cases b1)
  | (go_at_call 30;(with_reducible refine (zcA x.r0 x.x0 _).mono ?_);rintro e w3 ⟨b2,q2,rfl,k2⟩;cases b2))
 all_goals go_ret
 · exact BoolSays.no (zaa _ _)
 · exact BoolSays.no (Below.then (zaa _ _) k1)
 · exact BoolSays.no (Below.then (Below.then (zaa _ _) k1) k2)
 · exact BoolSays.of (Below.then (Below.then (zaa _ _) k1) k2) fun _=>⟨zaF.1 h1,q1 trivial,q2 trivial⟩
theorem zgN (x:BayM) (A:Option Addr) (c:Nat) (p:StAt) (S:StatM) (w:World) :
 Calls J 52 #[O #[H S.name,E p.A1 S.buses.length p.c1,E p.A2 S.lines.length p.c2,E p.A3 S.sources.length p.c3,E p.A4 S.bays.length p.c4],
  O #[H x.name,D C x.kind,D C x.ofi,D C x.en,D C x.zr,D C x.zx,E A x.links.length c,F x.closed,D C x.ct,D C x.vt,D C x.sat,D C x.travel]] w (ErrSays (ObjF S x) w):=by
 go_enter Tryz.func52,Tryz.ntmps52;go_wp2
 all_goals go_ret
 all_goals first
  | exact ErrSays.no (zbq _ _ _) (by decide)
  | exact ErrSays.of (zbq _ _ _) fun _=>by unfold ObjF;simp at *;omega
theorem ret_at {P:Prop} {b:Bool} {w w':World} (h:Below w.heap.size w w') (hp:b=true→P) {e:Ending} (he:e = L (F b)):BoolSays P w e w':=by subst he;exact .of h hp
theorem zgP (x:BayM) (A:Option Addr) (c:Nat) (w:World) :
 Calls J 53 #[O #[H x.name,D C x.kind,D C x.ofi,D C x.en,D C x.zr,D C x.zx,E A x.links.length c,F x.closed,D C x.ct,D C x.vt,D C x.sat,D C x.travel]] w (BoolSays (zge x) w):=by
 have hk:x.kind=1∨x.kind=3∨((x.kind == 1)=false∧(x.kind == 3)=false):=by
  rw [beq_eq_false_iff_ne,beq_eq_false_iff_ne];omega
 rcases hk with hk | hk | ⟨hk,hk3⟩
 all_goals
  go_enter Tryz.func53,Tryz.ntmps53;go_wp2
  go_quiet (fail)
  go_wp2_with (first
   | (go_at_call 51;refine (zdq _ _ _ _).mono ?_;rintro e w' ⟨rfl,rfl⟩)
   | (go_at_call 30;refine (zcA x.zr x.zx _).mono ?_;rintro e w2 ⟨b1,q1,rfl,k1⟩;obtain ⟨hc1,hf1⟩:=zcv k1;cases b1))
 all_goals go_ret
 all_goals first
  | exact BoolSays.no (zag (zaa _ _) _)
  | exact BoolSays.no (Below.then (zag (zaa _ _) _) k1)
  | exact BoolSays.of (zag (zaa _ _) _) fun hb=>(by simp only [Bool.not_eq_false',bne_eq_false_iff_eq,beq_eq_false_iff_ne,zaF] at *;unfold zge;omega)
  | exact BoolSays.of (Below.then (zag (zaa _ _) _) k1) fun hb=>(by have q:=q1 trivial;simp only [bne_eq_false_iff_eq,zaF] at *;unfold zge Ohm;unfold Ohm at q;omega)
def zcX (nb:Int) (x:BayM) (k:Nat):Prop:=(∀ (j:Nat) (l:Int × Int),j<k→x.links[j]? = some l→zgc nb x l)∧(∀ (l m:Int × Int),1<k→x.links[0]? = some m→x.links[1]? = some l→l.1≠m.1)
theorem zeT (nb:Int) (x:BayM):zcX nb x 0:=⟨fun _ _ h=>absurd h (ja _),fun _ _ h=>absurd h (ja _)⟩
theorem zfD {nb:Int} {x:BayM} {l:Int × Int} (hx:x.links[0]? = some l) (h:zgc nb x l):zcX nb x 1:=
 ⟨fun j y hj hy=>by obtain rfl:j=0:=by omega
                    rw [hx] at hy;cases hy;exact h,fun _ _ h=>by omega⟩
theorem zfE {nb:Int} {x:BayM} {l m:Int × Int} (hu:zcX nb x 1) (hm:x.links[0]? = some m) (hx:x.links[1]? = some l) (h:zgc nb x l) (hn:l.1≠m.1):zcX nb x 2:=
 ⟨fun j y hj hy=>by
  rcases Nat.lt_or_ge j 1 with h1 | h1
  · exact hu.1 j y h1 hy
  · obtain rfl:j=1:=by omega
    rw [hx] at hy;cases hy;exact h,
  fun a b _ hb ha=>by rw [hm] at hb;rw [hx] at ha;cases ha;cases hb;exact hn⟩
def Lks (B:Nat) (W:World) (nb:Int) (x:BayM) (i:Value) (wr:World):Prop:=∃ k:Nat,k≤x.links.length∧i = D C k∧zcX nb x k∧Below B W wr
theorem zhJ (x:BayM) (A:Option Addr) (c B:Nat) (p:StAt) (S:StatM) (w:World) (hB:B≤w.heap.size) (hR:Rws LinkC 2 w B A x.links.length x.links) :
 Calls J 54 #[O #[H S.name,E p.A1 S.buses.length p.c1,E p.A2 S.lines.length p.c2,E p.A3 S.sources.length p.c3,E p.A4 S.bays.length p.c4],
  O #[H x.name,D C x.kind,D C x.ofi,D C x.en,D C x.zr,D C x.zx,E A x.links.length c,F x.closed,D C x.ct,D C x.vt,D C x.sat,D C x.travel]] w (ErrSays (LinksF S.buses.length x) w):=by
 have HR:=Hd hR;clear hR
 by_cases hn:(1:Int)≤(x.links.length:Int)∧(x.links.length:Int)≤2∧(x.kind=3→(x.links.length:Int)=2)
 case neg =>
  go_enter Tryz.func54,Tryz.ntmps54;go_wp2
  all_goals first
   | (go_ret;exact ErrSays.no (zbq _ _ _) (by decide))
   | (exfalso;simp only [bne_eq_false_iff_eq] at *;omega)
 obtain ⟨hn1,hn2,hn3⟩:=hn
 have hk:((x.kind == 3)=true∧((x.links.length:Int) != 2)=false)∨(x.kind == 3)=false:=by
  rw [beq_iff_eq,beq_eq_false_iff_ne,bne_eq_false_iff_eq]
  by_cases h3:x.kind=3
  · exact .inl ⟨h3,hn3 h3⟩
  · exact .inr h3
 have HN3:=Hd hn3;clear hn3;have hb2:=zbq w (I #[H S.name,E p.A1 S.buses.length p.c1,E p.A2 S.lines.length p.c2,E p.A3 S.sources.length p.c3,E p.A4 S.bays.length p.c4] 27) (I #[H x.name,D C x.kind,D C x.ofi,D C x.en,D C x.zr,D C x.zx,E A x.links.length c,F x.closed,D C x.ct,D C x.vt,D C x.sat,D C x.travel] 113);have q1:((w.alloc (I #[H S.name,E p.A1 S.buses.length p.c1,E p.A2 S.lines.length p.c2,E p.A3 S.sources.length p.c3,E p.A4 S.bays.length p.c4] 27)).alloc (I #[H x.name,D C x.kind,D C x.ofi,D C x.en,D C x.zr,D C x.zx,E A x.links.length c,F x.closed,D C x.ct,D C x.vt,D C x.sat,D C x.travel] 113)).cell? ⟨w.heap.size,1,G⟩=some (E p.A1 S.buses.length p.c1):=by simp
 have q2:((w.alloc (I #[H S.name,E p.A1 S.buses.length p.c1,E p.A2 S.lines.length p.c2,E p.A3 S.sources.length p.c3,E p.A4 S.bays.length p.c4] 27)).alloc (I #[H x.name,D C x.kind,D C x.ofi,D C x.en,D C x.zr,D C x.zx,E A x.links.length c,F x.closed,D C x.ct,D C x.vt,D C x.sat,D C x.travel] 113)).cell? ⟨w.heap.size+1,1,G⟩=some (D C x.kind):=by simp
 have q3:((w.alloc (I #[H S.name,E p.A1 S.buses.length p.c1,E p.A2 S.lines.length p.c2,E p.A3 S.sources.length p.c3,E p.A4 S.bays.length p.c4] 27)).alloc (I #[H x.name,D C x.kind,D C x.ofi,D C x.en,D C x.zr,D C x.zx,E A x.links.length c,F x.closed,D C x.ct,D C x.vt,D C x.sat,D C x.travel] 113)).cell? ⟨w.heap.size+1,6,G⟩=some (E A x.links.length c):=by simp
 have hsz:((w.alloc (I #[H S.name,E p.A1 S.buses.length p.c1,E p.A2 S.lines.length p.c2,E p.A3 S.sources.length p.c3,E p.A4 S.bays.length p.c4] 27)).alloc (I #[H x.name,D C x.kind,D C x.ofi,D C x.en,D C x.zr,D C x.zx,E A x.links.length c,F x.closed,D C x.ct,D C x.vt,D C x.sat,D C x.travel] 113)).heap.size=w.heap.size+2:=by simp
 have HSZ:=Hd hsz;clear hsz
 rcases hk with ⟨hk,hl2⟩ | hk
 all_goals
  go_enter Tryz.func54,Tryz.ntmps54;go_wp2;generalize (w.alloc (I #[H S.name,E p.A1 S.buses.length p.c1,E p.A2 S.lines.length p.c2,E p.A3 S.sources.length p.c3,E p.A4 S.bays.length p.c4] 27)).alloc (I #[H x.name,D C x.kind,D C x.ofi,D C x.en,D C x.zr,D C x.zx,E A x.links.length c,F x.closed,D C x.ct,D C x.vt,D C x.sat,D C x.travel] 113)=W at *
  go_loopw [6] (Lks W.heap.size W S.buses.length x) (fun i _=>x.links.length-(intOf i).toNat)
  case atStart=>exact ⟨0,Z _,rfl,zeT _ _,Below.refl _ _⟩
  case round =>
   obtain ⟨k,hk,rfl,hu,hbel⟩:=hrel;have HU:=Hd hu;clear hu;have hsz:=HSZ.out;have p1:=(hbel.cell (p:=⟨w.heap.size,1,G⟩) (by show w.heap.size<_;omega)).trans q1;have p2:=(hbel.cell (p:=⟨w.heap.size+1,1,G⟩) (by show w.heap.size+1<_;omega)).trans q2;have p3:=(hbel.cell (p:=⟨w.heap.size+1,6,G⟩) (by show w.heap.size+1<_;omega)).trans q3;have hw:=Below.then hb2 hbel
   have hs2:=hbel.size;have g0:w.heap.size<wr.heap.size:=by omega
   have g1:w.heap.size+1<wr.heap.size:=by omega
   clear hsz q1 q2 q3
   by_cases hlt:k<x.links.length
   · have hr:=HR.out.mono LinkC.mono (M _) (hw.mono hB)
     rcases Nat.eq_zero_or_pos k with rfl | hp
     · obtain ⟨b,o,cs,l,rfl,hbB,hx,-,rfl,hat⟩:=hr.at_ hlt
       have c0:wr.cell? ⟨b,o,G⟩=some (D C l.1):=by simpa using hat 0 _ rfl
       have c1:wr.cell? ⟨b,o+1,G⟩=some (D C l.2):=by simpa using hat 1 _ rfl
       have HX:=Hd hx
       have hb':b<wr.heap.size:=by have:=hw.size;omega
       clear hr hat hx
       go_wp2
       all_goals first
        | (go_ret;exact ErrSays.no (Below.then hw (zaa _ _)) (by decide))
        | (go_wp2
           go_quiet (fail)
           go_wp2
           go_roundw
           case rel =>
            have hl:zgc S.buses.length x l:=(by simp only [beq_iff_eq,beq_eq_false_iff_ne] at *;unfold zgc;omega)
            exact ⟨1,by omega,by go_num,zfD HX.out hl,zag (hbel.alloc hs2 _) _⟩
           case measure=>simp [intOf];omega)
     · obtain rfl:k=1:=by omega
       obtain ⟨b,o,cs,m,rfl,hbB,hm,-,rfl,hat0⟩:=hr.at_ (k:=0) (by omega)
       obtain ⟨b',o',cs,l,e',-,hx,-,rfl,hat⟩:=hr.at_ (k:=1) hlt
       cases e'
       have c0:wr.cell? ⟨b,o,G⟩=some (D C m.1):=by simpa using hat0 0 _ rfl
       have c2:wr.cell? ⟨b,o+2,G⟩=some (D C l.1):=by simpa using hat 0 _ rfl
       have c3:wr.cell? ⟨b,o+2+1,G⟩=some (D C l.2):=by simpa using hat 1 _ rfl
       have HX:=Hd hx
       have HM:=Hd hm
       have hb':b<wr.heap.size:=by have:=hw.size;omega
       clear hr hat hat0 hx hm
       cases hq:(l.1 == m.1)
       all_goals
        go_wp2
        all_goals first
         | (go_ret;exact ErrSays.no (Below.then hw (zaa _ _)) (by decide))
         | (go_wp2
            go_quiet (fail)
            go_wp2
            first
             | (go_ret;exact ErrSays.no (Below.then hw (zag (zaa _ _) _)) (by decide))
             | (go_roundw
                case rel =>
                 have hl:zgc S.buses.length x l:=(by simp only [beq_iff_eq,beq_eq_false_iff_ne] at *;unfold zgc;omega)
                 exact ⟨2,by omega,by go_num,zfE HU.out HM.out HX.out hl (by simpa using hq),zag (hbel.alloc hs2 _) _⟩
                case measure=>simp [intOf];omega))
   · obtain rfl:k=x.links.length:=by omega
     go_wp2
     go_ret
     exact ErrSays.of hw fun _=>⟨by omega,by have:=HN3.out;omega,fun j l hj=>HU.out.1 j l (List.getElem?_eq_some_iff.1 hj).1 hj,fun l m hm hl=>HU.out.2 l m (List.getElem?_eq_some_iff.1 hl).1 hm hl⟩
end Go.Proofs.YtjkimieapfbhbaaGreatDoor
