/-
  A map with string keys and plain elements that the call itself made, told by a plain function: what a look-up gives, what a store makes of it, and when it stays. No program is named here.
-/
import Derived.Test.YtcikenlflcofbaaGreatDoorBase
import Derived.Maps.OwnSet
import Derived.Maps.Views
import Derived.StringKeys
import Derived.Test.YtcikenlflcofbaaGreatDoorP1
import Derived.Test.YtcikenlflcofbaaGreatDoorProg
set_option maxRecDepth 100000
set_option maxHeartbeats 8000000
namespace Go.Proofs.YtcikenlflcofbaaGreatDoor
open Go.RowKit
def MapS (P:Program) (k e:TypeId) (w:World) (b n:Nat) (f:ByteArray→Option Value):Prop:=
  ∃ D:DataW Unit,w.ownsMap P k (plainElem P e) b n D∧∀ s:ByteArray,s.size≤maxLen→Maps.has D (.string s.data.toList)=(f s).isSome∧∀ v,f s=some v→∃ y:DataW Unit × List MemPlace,plainElem P e v=some y∧∀ zd,D.atKey (.string s.data.toList) zd=y.1
section
variable {P : Program} {k e t : TypeId} {w w' : World} {b n : Nat} {f : ByteArray → Option Value}
theorem MapS.made (P:Program) (k e:TypeId) (w:World):MapS P k e (w.alloc (.map #[] 0)) w.heap.size 0 (fun _=>Option.none):=
  ⟨.map [],World.ownsMap_made w P k _,fun s _=>⟨rfl,fun v hv=>by cases hv⟩⟩
theorem MapS.block (h:MapS P k e w b n f):b<w.heap.size:=by
  obtain ⟨D,⟨es,clock,hb,_⟩,_⟩:=h
  rcases Nat.lt_or_ge b w.heap.size with hlt | hge
  · exact hlt
  · rw [Array.getElem?_eq_none hge] at hb;cases hb
theorem MapS.kept (h:MapS P k e w b n f) (hb:w'.heap[b]? = w.heap[b]?):MapS P k e w' b n f:=by
  obtain ⟨D,⟨es,clock,hb',F,hs,hD⟩,hf⟩:=h;exact ⟨D,⟨es,clock,hb.trans hb',F,hs,hD⟩,hf⟩
theorem MapS.below (h:MapS P k e w b n f) {B:Nat} (hb:Below B w w') (hB:b<B):MapS P k e w' b n f:=h.kept (hb.block b hB)
theorem MapS.drew (h:MapS P k e w b n f):MapS P k e w.drew b n f:=h.kept rfl
theorem MapS.alloc (h:MapS P k e w b n f) (o:Obj):MapS P k e (w.alloc o) b n f:=h.kept (Below.heap_alloc w o b h.block)
theorem zja {v v':Value} {y y':DataW Unit × List MemPlace} (h:plainElem P e v=some y) (h':plainElem P e v'=some y') (hy:y.1=y'.1):v=v':=by
  unfold plainElem at h h'
  cases hu:P.underlying e with
  | none=>rw [hu] at h;simp at h
  | some d =>
    rw [hu] at h h'
    split at h
    · split at h'
      · cases h;cases h';simp at hy;rw [hy]
      · simp_all
      · simp_all
      · cases h'
    · rename_i q q' a hq
      split at h'
      · simp_all
      · rename_i q2 q2' a2 hq2
        split at h
        · split at h'
          · rename_i h1 h2
            cases h;cases h'
            simp only [Option.some.injEq] at hq hq2
            simp at hy
            obtain ⟨rfl,_⟩:=h1
            obtain ⟨rfl,_⟩:=h2
            rw [hy.1,hy.2]
          · cases h'
        · cases h
      · simp_all
      · cases h'
    · split at h'
      · simp_all
      · simp_all
      · split at h
        · split at h'
          · cases h;cases h'
            simp at hy
            exact congrArg Value.string (WideShapes.bytes_inj (by simp [hy]))
          · cases h'
        · cases h
      · cases h'
    · cases h
theorem MapS.look (h:MapS P k e w b n f) (hk:P.underlying k=some .string) (ht:P.underlying t=some (.map k e)) {z:Value} (hz:(zeroValue e).run P w = .ok z w) {s:ByteArray} (hs:s.size≤maxLen) (c:Bool) :
    (Instr.lookup t (.map (some b)) (.string s) c).run P w = .ok (if c then .tuple #[(f s).getD z,.bool (f s).isSome] else (f s).getD z) w:=by
  obtain ⟨D,⟨es,clock,hb,F,_,hD⟩,hf⟩:=h;obtain ⟨hhas,hval⟩:=hf s hs
  rcases Maps.fit_look c (Maps.string_keyed hk) ht hz hb F (WideMaps.keyOf_string_mk hk hs) with ⟨hrun,_,hat⟩ | ⟨e0,y,_,_,hrun,hR,hat,_⟩
  · rw [← hD] at hat
    have h1:=Maps.has_false_of_atKey hat
    rw [h1] at hhas
    cases hfs:f s with
    | none=>rw [hrun];simp
    | some v=>rw [hfs] at hhas;simp at hhas
  · rw [← hD] at hat
    have h1:=Maps.has_true_of_atKey hat
    rw [h1] at hhas
    cases hfs:f s with
    | none=>rw [hfs] at hhas;simp at hhas
    | some v =>
      obtain ⟨y',hy',hat'⟩:=hval v hfs
      have:e0.val=v:=zja hR hy' (by rw [← hat y.1,← hat' y.1])
      rw [hrun,this];simp
def putS (f:ByteArray→Option Value) (s:ByteArray) (v:Value):ByteArray→Option Value:=fun x=>if x.toList=s.toList then some v else f x
theorem zaQ (s:ByteArray):s.toList=s.data.toList:=by
  exact ByteArray.toList_eq s
theorem MapS.store (h:MapS P k e w b n f) (hk:P.underlying k=some .string) (ht:P.underlying t=some (.map k e)) (hn:n<maxLen) {s:ByteArray} (hs:s.size≤maxLen) {v:Value} {y:DataW Unit × List MemPlace} (hv:plainElem P e v=some y) :
    ∃ w',(Instr.mapUpdate t (.map (some b)) (.string s) v).run P w = .ok () w'∧MapS P k e w' b (n+1) (putS f s v)∧w.grownBy w' (some b):=by
  obtain ⟨D,hown,hf⟩:=h;obtain ⟨w',hrun,hown',hturn⟩:=hown.store (Maps.string_keyed hk) ht hn (WideMaps.keyOf_string_mk hk hs) (d:=y.1) (ps:=y.2) hv;refine ⟨w',hrun,⟨_,hown',fun x hx => ?_⟩,hturn.grown⟩
  have hkl:WideAt.IsKeyLit (.string s.data.toList):=(Maps.string_keyed (P:=P) hk).key (WideMaps.keyOf_string_mk hk hs)
  by_cases hxs:x.toList=s.toList
  · have he:x.data.toList=s.data.toList:=by rw [← zaQ,← zaQ,hxs]
    simp only [putS,if_pos hxs]
    rw [he]
    refine ⟨by rw [Maps.has_put_same hown.isMap hkl];rfl,fun v' hv' => ?_⟩
    cases hv'
    exact ⟨y,hv,fun zd=>Maps.atKey_put_same hown.isMap hkl _ _⟩
  · have hne:(Lit.string x.data.toList) ≠ .string s.data.toList:=by
      intro he;injection he with he
      exact hxs (by rw [zaQ,zaQ,he])
    simp only [putS,if_neg hxs];obtain ⟨h1,h2⟩:=hf x hx;refine ⟨by rw [Maps.has_put_other hne];exact h1,fun v' hv' => ?_⟩
    obtain ⟨y',hy',hat⟩:=h2 v' hv';exact ⟨y',hy',fun zd=>by rw [Maps.atKey_put_other hne];exact hat zd⟩
end
end Go.Proofs.YtcikenlflcofbaaGreatDoor
namespace Go.Proofs.YtcikenlflcofbaaGreatDoor
open Go.RowKit
def KeepOn (S:Nat→Prop) (w w':World):Prop:=∀ b,S b→w'.heap[b]? = w.heap[b]?
theorem KeepOn.refl (S:Nat→Prop) (w:World):KeepOn S w w:=fun _ _=>rfl
theorem KeepOn.trans {S:Nat→Prop} {a b c:World} (h:KeepOn S a b) (k:KeepOn S b c):KeepOn S a c:=fun i hi=>(k i hi).trans (h i hi)
theorem KeepOn.mono {S T:Nat→Prop} {a b:World} (h:KeepOn T a b) (hs:∀ i,S i→T i):KeepOn S a b:=fun i hi=>h i (hs i hi)
theorem zab {S:Nat→Prop} {B:Nat} {w w':World} (h:Below B w w') (hS:∀ b,S b→b<B):KeepOn S w w':=fun b hb=>h.block b (hS b hb)
theorem zah {S:Nat→Prop} {row:Option Nat} {w w':World} (h:w.grownBy w' row) (hS:∀ b,S b→b<w.heap.size∧some b≠row):KeepOn S w w':=fun b hb=>h.block b (hS b hb).1 (hS b hb).2
theorem KeepOn.range {S:Nat→Prop} {w w':World} {b o:Nat} {cs:List Value} (h:KeepOn S w w') (hb:S b) (hr:w.rangeAt b o cs):w'.rangeAt b o cs:=
  fun j v hv=>(World.cell?_of_block (a:=⟨b,o+j,none⟩) (h b hb)).trans (hr j v hv)
def zdH {α:Type} (R:World→(Nat→Prop)→List Value→α→Prop):Prop:=∀ w w' S S' cs x,(∀ b,S b→S' b)→KeepOn S w w'→R w S cs x→R w' S' cs x
def Rw {α:Type} (R:World→(Nat→Prop)→List Value→α→Prop) (size:Nat) (w:World) (S:Nat→Prop) (A:Option Addr) (n:Nat) (xs:List α):Prop:=
  xs.length=n∧(0<n→∃ b o,A=some ⟨b,o,none⟩∧S b∧∀ k x,xs[k]? = some x→∃ cs,cs.length=size∧R w S cs x∧w.rangeAt b (o+k*size) cs)
theorem Rw.mono {α:Type} {R:World→(Nat→Prop)→List Value→α→Prop} (hR:zdH R) {size n:Nat} {S S':Nat→Prop} {w w':World} {A:Option Addr} {xs:List α} (hS:∀ b,S b→S' b) (hk:KeepOn S w w') (h:Rw R size w S A n xs):Rw R size w' S' A n xs:=by
  refine ⟨h.1,fun hn => ?_⟩
  obtain ⟨b,o,e,hb,hr⟩:=h.2 hn;refine ⟨b,o,e,hS b hb,fun k x hx => ?_⟩
  obtain ⟨cs,hl,hc,hat⟩:=hr k x hx;exact ⟨cs,hl,hR _ _ _ _ _ _ hS hk hc,hk.range hb hat⟩
theorem Rw.at_ {α:Type} {R:World→(Nat→Prop)→List Value→α→Prop} {size n:Nat} {S:Nat→Prop} {w:World} {A:Option Addr} {xs:List α} (h:Rw R size w S A n xs) {k:Nat} (hk:k<n) :
    ∃ b o cs x,A=some ⟨b,o,none⟩∧S b∧xs[k]? = some x∧cs.length=size∧R w S cs x∧w.rangeAt b (o+k*size) cs:=by
  obtain ⟨b,o,e,hb,hr⟩:=h.2 (by omega);have hl:k<xs.length:=by have:=h.1;omega
  obtain ⟨cs,h1,h2,h3⟩:=hr k _ (List.getElem?_eq_getElem hl);exact ⟨b,o,cs,_,e,hb,List.getElem?_eq_getElem hl,h1,h2,h3⟩
theorem Rw.nil {α:Type} {R:World→(Nat→Prop)→List Value→α→Prop} {size:Nat} {S:Nat→Prop} {w:World} {A:Option Addr}:Rw R size w S A 0 []:=⟨rfl,fun h=>absurd h (Nat.lt_irrefl 0)⟩
def ExP (op n:Int) (nm:List UInt8):Prop:=(Lit.int .i64 op).wf=true∧(Lit.int .i64 n).wf=true∧nm.length≤maxLen
def ExC:Nat→World→(Nat→Prop)→List Value→Ex→Prop
  | 0,_,_,_,_=>False
  | d+1,w,S,cs,.mk op n nm ks=>∃ A c,cs=[.int .i64 op,.int .i64 n,.string ⟨nm.toArray⟩,.slice A ks.length c]∧ks.length≤c∧c≤maxLen∧ExP op n nm∧Rw (ExC d) 4 w S A ks.length ks
theorem ExC.mono:∀ d,zdH (ExC d)
  | 0=>fun _ _ _ _ _ _ _ _ h=>h.elim
  | d+1=>fun w w' S S' cs x hS hk h=>by
    obtain ⟨op,n,nm,ks⟩:=x;obtain ⟨A,c,e,h1,h2,h3,h4⟩:=h;exact ⟨A,c,e,h1,h2,h3,h4.mono (ExC.mono d) hS hk⟩
theorem Rw.imp {α:Type} {R R':World→(Nat→Prop)→List Value→α→Prop} {size n:Nat} {S:Nat→Prop} {w:World} {A:Option Addr} {xs:List α} (h:Rw R size w S A n xs) (hR:∀ cs x,x∈xs→R w S cs x→R' w S cs x):Rw R' size w S A n xs:=by
  refine ⟨h.1,fun hn => ?_⟩
  obtain ⟨b,o,e,hb,hr⟩:=h.2 hn;refine ⟨b,o,e,hb,fun k x hx => ?_⟩
  obtain ⟨cs,hl,hc,hat⟩:=hr k x hx;exact ⟨cs,hl,hR cs x (List.mem_of_getElem? hx) hc,hat⟩
theorem ExC.deeper:∀ d w S cs x,ExC d w S cs x→ExC (d+1) w S cs x
  | 0,_,_,_,_,h=>h.elim
  | d+1,w,S,cs,x,h=>by
    obtain ⟨op,n,nm,ks⟩:=x;obtain ⟨A,c,e,h1,h2,h3,h4⟩:=h;exact ⟨A,c,e,h1,h2,h3,h4.imp (fun cs y _ hy=>ExC.deeper d w S cs y hy)⟩
theorem ExC.le {d d':Nat} {w:World} {S:Nat→Prop} {cs:List Value} {x:Ex} (hd:d≤d') (h:ExC d w S cs x):ExC d' w S cs x:=by
  induction hd with
  | refl=>exact h
  | step _ ih=>exact ExC.deeper _ _ _ _ _ ih
def ExV (w:World) (S:Nat→Prop) (cs:List Value) (x:Ex):Prop:=∃ d,ExC d w S cs x
theorem ExV.mono:zdH ExV:=fun w w' S S' cs x hS hk ⟨d,h⟩=>⟨d,ExC.mono d w w' S S' cs x hS hk h⟩
theorem ExV.form {w:World} {S:Nat→Prop} {cs:List Value} {op n:Int} {nm:List UInt8} {ks:List Ex} (h:ExV w S cs (.mk op n nm ks)) :
    ∃ A c,cs=[.int .i64 op,.int .i64 n,.string ⟨nm.toArray⟩,.slice A ks.length c]∧ks.length≤c∧c≤maxLen∧ExP op n nm∧Rw ExV 4 w S A ks.length ks:=by
  obtain ⟨d,h⟩:=h
  cases d with
  | zero=>exact h.elim
  | succ d =>
    obtain ⟨A,c,e,h1,h2,h3,h4⟩:=h;exact ⟨A,c,e,h1,h2,h3,h4.imp fun cs y _ hy=>⟨d,hy⟩⟩
theorem rw_ex {n:Nat} {w:World} {S:Nat→Prop} {A:Option Addr} {ks:List Ex} (h:Rw ExV 4 w S A n ks):∃ d,Rw (ExC d) 4 w S A n ks:=by
  rcases Nat.eq_zero_or_pos n with hn | hn
  · exact ⟨0,h.1,fun h'=>absurd h' (by omega)⟩
  · obtain ⟨b,o,e,hb,hr⟩:=h.2 hn
    have key:∀ m,m≤ks.length→∃ d,∀ k x,k<m→ks[k]? = some x→∃ cs,cs.length=4∧ExC d w S cs x∧w.rangeAt b (o+k*4) cs:=by
      intro m
      induction m with
      | zero=>exact fun _=>⟨0,fun k x hk=>absurd hk (Nat.not_lt_zero _)⟩
      | succ m ih =>
        intro hm
        obtain ⟨d,hd⟩:=ih (by omega)
        obtain ⟨cs,hl,⟨d',hc⟩,hat⟩:=hr m _ (List.getElem?_eq_getElem (show m<ks.length by omega))
        refine ⟨max d d',fun k x hk hx => ?_⟩
        rcases Nat.lt_succ_iff_lt_or_eq.1 hk with h' | rfl
        · obtain ⟨cs',a1,a2,a3⟩:=hd k x h' hx
          exact ⟨cs',a1,a2.le (Nat.le_max_left _ _),a3⟩
        · rw [List.getElem?_eq_getElem (show k<ks.length by omega)] at hx
          cases hx
          exact ⟨cs,hl,hc.le (Nat.le_max_right _ _),hat⟩
    obtain ⟨d,hd⟩:=key ks.length (Nat.le_refl _)
    exact ⟨d,h.1,fun _=>⟨b,o,e,hb,fun k x hx=>hd k x (List.getElem?_eq_some_iff.1 hx).1 hx⟩⟩
theorem ExV.mk {w:World} {S:Nat→Prop} {A:Option Addr} {c:Nat} {op n:Int} {nm:List UInt8} {ks:List Ex} (h1:ks.length≤c) (h2:c≤maxLen) (h3:ExP op n nm) (h4:Rw ExV 4 w S A ks.length ks) :
    ExV w S [.int .i64 op,.int .i64 n,.string ⟨nm.toArray⟩,.slice A ks.length c] (.mk op n nm ks):=by
  obtain ⟨d,hd⟩:=rw_ex h4;exact ⟨d+1,A,c,rfl,h1,h2,h3,hd⟩
structure XB (w:World) (b o:Nat) (op n:Int) (nm:List UInt8) (A:Option Addr) (k c:Nat):Prop where
  c0:w.cell? ⟨b,o,none⟩=some (.int .i64 op)
  c1:w.cell? ⟨b,o+1,none⟩=some (.int .i64 n)
  c2:w.cell? ⟨b,o+2,none⟩=some (.string ⟨nm.toArray⟩)
  c3:w.cell? ⟨b,o+3,none⟩=some (.slice A k c)
theorem XB.of {w:World} {b o:Nat} {op n:Int} {nm:List UInt8} {A:Option Addr} {k c:Nat} (h:w.rangeAt b o [.int .i64 op,.int .i64 n,.string ⟨nm.toArray⟩,.slice A k c]):XB w b o op n nm A k c:=
  ⟨by simpa using h 0 _ rfl,h 1 _ rfl,h 2 _ rfl,h 3 _ rfl⟩
theorem exAt {w:World} {S:Nat→Prop} {A:Option Addr} {n:Nat} {ks:List Ex} (h:Rw ExV 4 w S A n ks) {k:Nat} (hk:k<n) :
    ∃ b o op m nm A' c' ys,A=some ⟨b,o,none⟩∧S b∧ks[k]? = some (.mk op m nm ys)∧ys.length≤c'∧c'≤maxLen∧ExP op m nm∧Rw ExV 4 w S A' ys.length ys∧XB w b (o+k*4) op m nm A' ys.length c':=by
  obtain ⟨b,o,cs,x,e,hb,hx,_,hv,hat⟩:=h.at_ hk;obtain ⟨op,m,nm,ys⟩:=x;obtain ⟨A',c',rfl,h1,h2,h3,h4⟩:=hv.form;exact ⟨b,o,op,m,nm,A',c',ys,e,hb,hx,h1,h2,h3,h4,XB.of hat⟩
def TokC (_:World) (_:Nat→Prop) (cs:List Value) (t:Tok):Prop:=cs=[.int .i64 t.kind,.string ⟨t.text.toArray⟩,.int .i64 t.pos,.int .i64 t.n]
theorem TokC.mono:zdH TokC:=fun _ _ _ _ _ _ _ _ h=>h
theorem Rw.of_own {α:Type} {R:World→(Nat→Prop)→List Value→α→Prop} {size base n c:Nat} {e:TypeId} {w:World} {S:Nat→Prop} {A:Option Addr} {xs:List α} {f:α→List Value}
    (h:w.ownsRow base e size (.slice A n c) n (xs.flatMap f)) (hn:xs.length=n) (hf:∀ x∈xs,(f x).length=size) (hR:∀ x∈xs,R w S (f x) x) (hS:∀ b,base≤b→b<w.heap.size→S b):Rw R size w S A n xs:=by
  have h0:Rws (fun w' _ cs x=>R w' S cs x) size w w.heap.size A n xs:=Rws.of_own (f:=f) (base:=base) (e:=e) (c:=c) h hn hf hR;refine ⟨hn,fun hpos => ?_⟩
  obtain ⟨g,cap,hv,hlo,hlt⟩:=h.form hpos;obtain ⟨b,o,e1,hlt',hr⟩:=h0.2 hpos;have hA:A=some ⟨g,0,none⟩:=by injection hv
  subst hA;injection e1 with e1
  injection e1 with e1 e2
  subst e1;subst e2;exact ⟨g,0,rfl,hS g hlo hlt,hr⟩
end Go.Proofs.YtcikenlflcofbaaGreatDoor
namespace Go.Proofs.YtcikenlflcofbaaGreatDoor
open Go.RowKit
def SgC (_:World) (_:Nat→Prop) (cs:List Value) (s:Sg):Prop:=cs=[.string ⟨s.nm.toArray⟩,.int .i64 s.kind]∧s.nm.length≤maxLen∧(Lit.int .i64 s.kind).wf=true
theorem SgC.mono:zdH SgC:=fun _ _ _ _ _ _ _ _ h=>h
theorem sgAt {w:World} {S:Nat→Prop} {A:Option Addr} {n:Nat} {env:List Sg} (h:Rw SgC 2 w S A n env) {k:Nat} (hk:k<n) :
    ∃ b o s,A=some ⟨b,o,none⟩∧S b∧env[k]? = some s∧s.nm.length≤maxLen∧(Lit.int .i64 s.kind).wf=true∧w.cell? ⟨b,o+k*2,none⟩=some (.string ⟨s.nm.toArray⟩)∧w.cell? ⟨b,o+k*2+1,none⟩=some (.int .i64 s.kind):=by
  obtain ⟨b,o,cs,s,e,hb,hx,_,⟨rfl,h1,h2⟩,hat⟩:=h.at_ hk;exact ⟨b,o,s,e,hb,hx,h1,h2,by simpa using hat 0 _ rfl,hat 1 _ rfl⟩
end Go.Proofs.YtcikenlflcofbaaGreatDoor
namespace Go.Proofs.YtcikenlflcofbaaGreatDoor
open Go.RowKit
structure TB (w:World) (b o:Nat) (t:Tok):Prop where
  c0:w.cell? ⟨b,o,none⟩=some (.int .i64 t.kind)
  c1:w.cell? ⟨b,o+1,none⟩=some (.string ⟨t.text.toArray⟩)
  c2:w.cell? ⟨b,o+2,none⟩=some (.int .i64 t.pos)
  c3:w.cell? ⟨b,o+3,none⟩=some (.int .i64 t.n)
def zcU (A:Option Addr) (c:Nat) (L:List Tok) (i:Nat) (late:Int):Obj := .cells #[.slice A L.length c,.int .i64 i,.int .i64 late] 134 (0,0)
structure PS (pb:Nat) (A:Option Addr) (c:Nat) (L:List Tok) (i:Nat) (late:Int) (w:World):Prop where
  heap:w.heap[pb]? = some (zcU A c L i late)
  toks:Rw TokC 4 w (fun b=>b<w.heap.size∧b≠pb) A L.length L
  lt:i<L.length
  le:L.length≤1000
  last:∀ j,j<L.length→(tk L j).kind≠0→j+1<L.length
  fit:∀ j,(Lit.int .i64 (tk L j).n).wf=true∧(tk L j).text.length≤maxLen
theorem PS.ltp {pb:Nat} {A:Option Addr} {c:Nat} {L:List Tok} {i:Nat} {late:Int} {w:World} (h:PS pb A c L i late w):pb<w.heap.size:=(Array.getElem?_eq_some_iff.1 h.heap).1
theorem PS.cells {pb:Nat} {A:Option Addr} {c:Nat} {L:List Tok} {i:Nat} {late:Int} {w:World} (h:PS pb A c L i late w) :
    w.cell? ⟨pb,0,none⟩=some (.slice A L.length c)∧w.cell? ⟨pb,1,none⟩=some (.int .i64 i)∧w.cell? ⟨pb,2,none⟩=some (.int .i64 late) ∧
    w.frozen? ⟨pb,1,none⟩=false∧w.frozen? ⟨pb,2,none⟩=false:=by
  have hh:w.heap[pb]? = some (.cells #[.slice A L.length c,.int .i64 i,.int .i64 late] 134 (0,0)):=h.heap;exact ⟨by simp [World.cell?,hh],by simp [World.cell?,hh],by simp [World.cell?,hh],Lib.frozen_of_heap hh 1,Lib.frozen_of_heap hh 2⟩
theorem PS.tok {pb:Nat} {A:Option Addr} {c:Nat} {L:List Tok} {i:Nat} {late:Int} {w:World} (h:PS pb A c L i late w) :
    ∃ b o,A=some ⟨b,o,none⟩∧b<w.heap.size∧b≠pb∧TB w b (o+i*4) (tk L i):=by
  obtain ⟨b,o,cs,x,e,⟨hb,hne⟩,hx,_,hR,hat⟩:=h.toks.at_ h.lt;obtain rfl:cs=_:=hR;have ht:tk L i=x:=by unfold tk;rw [List.getD_eq_getElem?_getD,hx];rfl
  rw [ht];exact ⟨b,o,e,hb,hne,by simpa using hat 0 _ rfl,hat 1 _ rfl,hat 2 _ rfl,hat 3 _ rfl⟩
theorem PS.grown {pb:Nat} {A:Option Addr} {c:Nat} {L:List Tok} {i j:Nat} {late late':Int} {w w':World} (h:PS pb A c L i late w) (hg:w.grownBy w' (some pb)) (hh:w'.heap[pb]? = some (zcU A c L j late')) (hj:j<L.length):PS pb A c L j late' w' :=
  ⟨hh,h.toks.mono TokC.mono (fun b hb=>⟨Nat.lt_of_lt_of_le hb.1 hg.size,hb.2⟩) (zah hg fun b hb=>⟨hb.1,fun e=>hb.2 (by injection e)⟩),hj,h.le,h.last,h.fit⟩
theorem zap {w w':World} {row:Option Nat} (h:Below w.heap.size w w'):w.grownBy w' row:=⟨h.os,h.tape,h.output,h.size,fun k hk _=>h.block k hk⟩
theorem PS.below {pb:Nat} {A:Option Addr} {c:Nat} {L:List Tok} {i:Nat} {late:Int} {w w':World} (h:PS pb A c L i late w) (hb:Below w.heap.size w w'):PS pb A c L i late w' :=
  h.grown (zap hb) ((hb.block pb h.ltp).trans h.heap) h.lt
theorem zad {B:Nat} {a w:World} (h:Below B a w):Below B a w.drew:=⟨h.os,h.tape,h.output,h.size,h.block⟩
theorem zbZ (a b c d:Value) (w:World):(Instr.field 136 (.agg #[a,b,c,d]) 1).run Tryz.prog w = .ok b w:=by kernel_rfl
def tokV (t:Tok):Value := .agg #[.int .i64 t.kind,.string ⟨t.text.toArray⟩,.int .i64 t.pos,.int .i64 t.n]
def zdC (t:Tok) (w:World) (e:Ending) (w':World):Prop:=e = .returned (tokV t)∧Below w.heap.size w w'
theorem zcc {pb:Nat} {A:Option Addr} {c:Nat} {L:List Tok} {i:Nat} {late:Int} {w:World} (h:PS pb A c L i late w):Calls Tryz.prog 78 #[.pointer (some ⟨pb,0,none⟩)] w (zdC (tk L i) w):=by
  obtain ⟨b,o,rfl,hb,hne,t0,t1,t2,t3⟩:=h.tok;obtain ⟨p0,p1,p2,f1,f2⟩:=h.cells;have hp:=h.ltp;have hi:=h.lt;have hle:=h.le;clear h;generalize tk L i=t at *;go_enter Tryz.func78,Tryz.ntmps78;go_wp2;go_region
  go_wp2;refine bodyPost_ret (v:=tokV t) (by simp [results,Tryz.results78,go_sem,tokV]) rfl ?_
  exact ⟨rfl,zad ((Below.refl _ _).alloc (Nat.le_refl _) _)⟩
def Left (pb:Nat) (A:Option Addr) (c:Nat) (L:List Tok) (j:Nat) (late:Int) (w w':World):Prop:=w.grownBy w' (some pb)∧w'.heap[pb]? = some (zcU A c L j late)
theorem zaK {w w':World} {row:Option Nat} (h:w.grownBy w' row) (o:Obj):w.grownBy (w'.alloc o) row:=h.trans (World.grownBy_alloc w' o row)
theorem PS.left {pb:Nat} {A:Option Addr} {c:Nat} {L:List Tok} {i j:Nat} {late late':Int} {w w':World} (h:PS pb A c L i late w) (hl:Left pb A c L j late' w w') (hj:j<L.length):PS pb A c L j late' w':=h.grown hl.1 hl.2 hj
theorem PS.take_lt {pb:Nat} {A:Option Addr} {c:Nat} {L:List Tok} {i:Nat} {late:Int} {w:World} (h:PS pb A c L i late w):zaA L i<L.length:=by
  unfold zaA
  split
  · exact h.lt
  · exact h.last i h.lt ‹_›
theorem zc4 {pb:Nat} {A:Option Addr} {c:Nat} {L:List Tok} {j:Nat} {late:Int} {w w':World} (h:Left pb A c L j late w w'):Left pb A c L j late w w'.drew:=⟨⟨h.1.os,h.1.tape,h.1.output,h.1.size,h.1.block⟩,h.2⟩
theorem Left.lt {pb:Nat} {A:Option Addr} {c:Nat} {L:List Tok} {j:Nat} {late:Int} {w w':World} (h:Left pb A c L j late w w'):pb<w'.heap.size:=(Array.getElem?_eq_some_iff.1 h.2).1
theorem Left.alloc {pb:Nat} {A:Option Addr} {c:Nat} {L:List Tok} {j:Nat} {late:Int} {w w':World} (h:Left pb A c L j late w w') (o:Obj):Left pb A c L j late w (w'.alloc o):=⟨zaK h.1 o,(Lib.alloc_old w' o pb h.lt).trans h.2⟩
theorem zaf (w:World) (b i:Nat) (v:Value):w.grownBy (w.setCell ⟨b,i,none⟩ v) (some b):=⟨rfl,rfl,rfl,by simp,fun k _ hne=>Below.heap_setCell w _ v k (fun e=>hne (by rw [e]))⟩
theorem Left.place {pb:Nat} {A:Option Addr} {c:Nat} {L:List Tok} {i:Nat} {late:Int} {w:World} (h:w.heap[pb]? = some (zcU A c L i late)):Left pb A c L (i+1) late w (w.setCell ⟨pb,1,none⟩ (.int .i64 ((i:Int)+1))):=
  ⟨zaf w pb 1 _,by have:=heap_setCell_same w pb 1 _ _ (.int .i64 ((i:Int)+1)) h;rw [this];rfl⟩
theorem Left.below {pb:Nat} {A:Option Addr} {c:Nat} {L:List Tok} {j:Nat} {late:Int} {w w' w'':World} (h:Left pb A c L j late w w') (hb:Below w'.heap.size w' w''):Left pb A c L j late w w'':=⟨h.1.trans (zap hb),(hb.block pb h.lt).trans h.2⟩
theorem Left.trans {pb:Nat} {A:Option Addr} {c:Nat} {L:List Tok} {i j:Nat} {late late':Int} {w w' w'':World} (h:Left pb A c L i late w w') (k:Left pb A c L j late' w' w''):Left pb A c L j late' w w'':=⟨h.1.trans k.1,k.2⟩
def zbm (pb:Nat) (A:Option Addr) (c:Nat) (L:List Tok) (i:Nat) (late:Int) (w:World) (e:Ending) (w':World):Prop:=e = .returned (tokV (tk L i))∧Left pb A c L (zaA L i) late w w'
theorem zbb {pb:Nat} {A:Option Addr} {c:Nat} {L:List Tok} {i:Nat} {late:Int} {w:World} (h:PS pb A c L i late w):Calls Tryz.prog 106 #[.pointer (some ⟨pb,0,none⟩)] w (zbm pb A c L i late w):=by
  obtain ⟨b,o,rfl,hb,hne,t0,t1,t2,t3⟩:=h.tok;obtain ⟨p0,p1,p2,f1,f2⟩:=h.cells;have hp:=h.ltp;have hi:=h.lt;have hle:=h.le;have hh:=Hi h.heap;have ht:zaA L i=if (tk L i).kind=0 then i else i+1:=rfl
  have HT:=Hi ht;clear h ht;unfold zbm;generalize tk L i=t at *
  by_cases hk:t.kind=0
  · have hk1:(t.kind != 0)=false:=by simp [hk]
    have HK:=Hi hk
    clear hk
    go_enter Tryz.func106,Tryz.ntmps106
    go_wp2
    go_region
    go_wp2
    refine bodyPost_ret (v:=tokV t) (by simp [results,Tryz.results106,go_sem,tokV]) rfl ⟨rfl,?_⟩
    have he:zaA L i=i:=by rw [HT.out];exact if_pos HK.out
    rw [he]
    exact zc4 (Left.alloc (Left.alloc ⟨World.grownBy.refl w _,hh.out⟩ _) _)
  · have hk1:(t.kind != 0)=true:=by simp [hk]
    have HK:=Hi hk
    clear hk
    go_enter Tryz.func106,Tryz.ntmps106
    go_wp2
    go_region
    go_wp2
    refine bodyPost_ret (v:=tokV t) (by simp [results,Tryz.results106,go_sem,tokV]) rfl ⟨rfl,?_⟩
    have he:zaA L i=i+1:=by rw [HT.out];exact if_neg HK.out
    rw [he]
    exact zc4 (Left.alloc (Left.alloc (Left.place hh.out) _) _)
theorem zai {P:Program} {fn:Func} {R:Ending→World→Prop} {a:Act} {w:World} {chain:List PanicEntry} (hd:a.defers=[]) (hR:R (.panicked chain) w):bodyPost P fn R (.panic chain) a w:=⟨hd,hR⟩
def stopV (a e:Int):List PanicEntry:=[{ v := .iface 128 (.agg #[.int .i64 a,.int .i64 e]),recovered:=false }]
def zk9 (pb:Nat) (A:Option Addr) (c:Nat) (L:List Tok) (i:Nat) (late:Int) (w:World) (e:Ending) (w':World):Prop:=e = .returned (.tuple #[])∧Left pb A c L (zaA L i) late w w'
def RetStop (pb:Nat) (a er:Int) (w:World) (e:Ending) (w':World):Prop:=e = .panicked (stopV a er)∧w.grownBy w' (some pb)
theorem zcw {pb:Nat} {A:Option Addr} {c:Nat} {L:List Tok} {i:Nat} {late:Int} {w:World} (s:List UInt8) (h:PS pb A c L i late w) (hb:isT L i s=true):Calls Tryz.prog 132 #[.pointer (some ⟨pb,0,none⟩),.string ⟨s.toArray⟩] w (zk9 pb A c L i late w):=by
  have C:=zbb h;unfold zbm at C;have HC:=Hi C;unfold isT at hb;clear C h;generalize tk L i=t at *;go_enter Tryz.func132,Tryz.ntmps132;go_wp2_with fail
  refine HC.out.mono ?_
  rintro e w1 ⟨rfl,hl⟩
  unfold tokV;go_wp2;go_end0
  exact ⟨rfl,hl.alloc _⟩
theorem zcv {pb:Nat} {A:Option Addr} {c:Nat} {L:List Tok} {i:Nat} {late:Int} {w:World} (s:List UInt8) (h:PS pb A c L i late w) (hb:isT L i s=false):Calls Tryz.prog 132 #[.pointer (some ⟨pb,0,none⟩),.string ⟨s.toArray⟩] w (RetStop pb (tk L i).pos 6 w):=by
  have C:=zbb h;unfold zbm at C;have HC:=Hi C;unfold isT at hb;clear C h;generalize tk L i=t at *;go_enter Tryz.func132,Tryz.ntmps132;go_wp2_with fail
  refine HC.out.mono ?_
  rintro e w1 ⟨rfl,hl⟩
  unfold tokV;go_wp2;refine zai rfl ?_
  exact ⟨rfl,zaK hl.1 _⟩
end Go.Proofs.YtcikenlflcofbaaGreatDoor
namespace Go.Proofs.YtcikenlflcofbaaGreatDoor
open Go.RowKit
theorem zaa (w:World) (o:Obj):Below w.heap.size w (w.alloc o):=(Below.refl _ w).alloc (Nat.le_refl _) o
def New (w w':World) (b:Nat):Prop:=w.heap.size≤b∧b<w'.heap.size
theorem zac {n:Nat} {w w1 w2:World} (h:Below n w w1) (k:Below w1.heap.size w1 w2) (hn:n≤w1.heap.size):Below n w w2:=h.trans (k.mono hn)
theorem zam {w w':World} {base:Nat} {e:TypeId} {size n:Nat} {v:Value} {xs:List Value} (h:w.ownsRow base e size v n xs) (hb:∀ g,v.ownBlock=some g→g<w.heap.size→w'.heap[g]? = w.heap[g]?):w'.ownsRow base e size v n xs:=by
  refine ⟨h.1,?_⟩
  rcases h.2 with q | ⟨g,cap,cur,rfl,h2,h3,h4⟩
  · exact .inl q
  · exact .inr ⟨g,cap,cur,rfl,h2,(hb g rfl (Array.getElem?_eq_some_iff.1 h3).1).trans h3,h4⟩
theorem zaW {P:Program} {w:World} {ops:Array Oper} {o:Oper} {a:Act} {K:Act→World→Prop} {Q:Exit→Act→World→Prop} {E:Prop} (s x:Operand) (t:TypeId)
    {base:Nat} {e:TypeId} {i:TypeInfo} {z:Value} {size bytes:Nat} {v:Value} {n:Nat} {xs:List Value} {A:Option Addr} {m c:Nat} {news:List Value} (hgd:o.guard=Option.none)
    (ho:o.op = .call { callee := .builtin .append,args := #[s,x],argTypes := #[t,t] })
    (ht:P.underlying t=some (.slice e)) (hi:P.info? e=some i) (hz:i.zero=some z) (hsize:i.size=size) (hby:i.bytes=bytes) (hzs:z.cells.size=size) (hsz:0<size)
    (hs:a.eval s=v) (hown:w.ownsRow base e size v n xs) (hx:a.eval x = .slice A m c) (hr:Src w size A m news) (h1:∀ u∈news,u.oneCell'=true)
    (h63:n+m≤maxLen) (hbytes:(n+m)*bytes≤140737488355328) (hbase:base≤w.heap.size)
    (h:∀ v' w',w'.ownsRow base e size v' (n+m) (xs++news)→w.grownBy w' v.ownBlock→(v'.ownBlock=v.ownBlock∨v'.ownBlock=some w.heap.size)→K (a.put o.dst v') w') :
    if Region.wanted o (yielded ops a.tmps)=true then Oper.wp P o a w K Q else E:=by
  have hw:Region.wanted o (yielded ops a.tmps)=true:=by simp [Region.wanted,hgd]
  rw [if_pos hw];obtain ⟨v',w',hrun,h2,h3,h4⟩:=zbW (P:=P) w base t o.type e i z size bytes ht hi hz hsize hby hzs hsz v n xs hown A m c news hr h1 h63 hbytes hbase;unfold Oper.wp execOp;simp only [ho,resolve,invoke,builtin,Sem.run_bind,Sem.run_pure,Result.andThen_ok,List.map_toArray,List.map_cons,List.map_nil,hs,hx,hrun];exact h v' w' h2 h3 h4
theorem zaj {P:Program} {w:World} {ops:Array Oper} {rest:List Oper} {o:Oper} {a:Act} {Q:Exit→Act→World→Prop} (s x:Operand) (t:TypeId)
    {base:Nat} {e:TypeId} {i:TypeInfo} {z:Value} {size bytes:Nat} {v:Value} {n:Nat} {xs:List Value} {A:Option Addr} {m c:Nat} {news:List Value} (hgd:o.guard=Option.none)
    (ho:o.op = .call { callee := .builtin .append,args := #[s,x],argTypes := #[t,t] })
    (ht:P.underlying t=some (.slice e)) (hi:P.info? e=some i) (hz:i.zero=some z) (hsize:i.size=size) (hby:i.bytes=bytes) (hzs:z.cells.size=size) (hsz:0<size)
    (hs:a.eval s=v) (hown:w.ownsRow base e size v n xs) (hx:a.eval x = .slice A m c) (hr:Src w size A m news) (h1:∀ u∈news,u.oneCell'=true)
    (h63:n+m≤maxLen) (hbytes:(n+m)*bytes≤140737488355328) (hbase:base≤w.heap.size)
    (h:∀ v' w',w'.ownsRow base e size v' (n+m) (xs++news)→w.grownBy w' v.ownBlock→(v'.ownBlock=v.ownBlock∨v'.ownBlock=some w.heap.size)→wpList P ops Q rest (a.put o.dst v') w'):wpList P ops Q (o::rest) a w:=
  wpList_plain hgd fun _ hK=>by
    obtain ⟨v',w',hrun,h2,h3,h4⟩:=zbW (P:=P) w base t o.type e i z size bytes ht hi hz hsize hby hzs hsz v n xs hown A m c news hr h1 h63 hbytes hbase;unfold Oper.wp execOp;simp only [ho,resolve,invoke,builtin,Sem.run_bind,Sem.run_pure,Result.andThen_ok,List.map_toArray,List.map_cons,List.map_nil,hs,hx,hrun];exact hK _ _ (h v' w' h2 h3 h4)
theorem zaL (w:World) (cs:List Value) (t:TypeId) (size n:Nat) (hn:cs.length=n*size):Src (w.alloc (Obj.cells cs.toArray t)) size (some ⟨w.heap.size,0,none⟩) n cs:=by
  refine ⟨hn,fun _=>⟨_,rfl,fun j u hu => ?_⟩⟩
  rw [Addr.add_mid,Nat.zero_add];have h2:=cell_of_row (w.alloc (Obj.cells cs.toArray t)) w.heap.size j _ t (0,0) (heap_alloc_new w _);rw [h2];simpa using hu
theorem zbJ (w:World) (row:Option Nat):w.grownBy w.drew row:=zap (zad (Below.refl _ _))
end Go.Proofs.YtcikenlflcofbaaGreatDoor
namespace Go.Proofs.YtcikenlflcofbaaGreatDoor
open Go.RowKit
def RetB (b:Bool) (w:World) (e:Ending) (w':World):Prop:=e = .returned (.bool b)∧Below w.heap.size w w'
end Go.Proofs.YtcikenlflcofbaaGreatDoor
namespace Go.Proofs.YtcikenlflcofbaaGreatDoor
open Go.RowKit
def RetStr (l:List UInt8) (w:World) (e:Ending) (w':World):Prop:=e = .returned (.string ⟨l.toArray⟩)∧Below w.heap.size w w'
def RetI (n:Int) (w:World) (e:Ending) (w':World):Prop:=e = .returned (.int .i64 n)∧Below w.heap.size w w'
def zdI (n:Int) (w:World) (e:Ending) (w':World):Prop:=e = .returned (.int .i64 n)∧w=w'
def zex (b:Bool) (w:World) (e:Ending) (w':World):Prop:=e = .returned (.bool b)∧w=w'
theorem zae {a b:Bool} (h:a=b):Ending.returned (.bool a) = .returned (.bool b):=by rw [h]
theorem zfq (op:Int) (w:World):Calls Tryz.prog 115 #[.int .i64 op] w (zdI (zav op) w):=by
  by_cases hr:1≤op∧op≤22
  · have hop:op=1∨op=2∨op=3∨op=4∨op=5∨op=6∨op=7∨op=8∨op=9∨op=10∨op=11∨op=12∨op=13∨op=14∨op=15∨op=16∨op=17∨op=18∨op=19∨op=20∨op=21∨op=22:=by omega
    clear hr
    rcases hop with rfl | rfl | rfl | rfl | rfl | rfl | rfl | rfl | rfl | rfl | rfl | rfl | rfl | rfl | rfl | rfl | rfl | rfl | rfl | rfl | rfl | rfl
    all_goals
      go_enter Tryz.func115,Tryz.ntmps115
      go_wp2
      go_ret
      exact ⟨rfl,rfl⟩
  · have ha:zav op = -1:=by unfold zav;rw [if_neg (by omega),if_neg (by omega),if_neg (by omega),if_neg (by omega)]
    have HA:=Hi ha
    clear ha
    rcases (by omega:op<1∨22<op) with h | h
    all_goals
      clear hr
      go_enter Tryz.func115,Tryz.ntmps115
      go_wp2
      go_ret
      exact ⟨zbs HA.out.symm,rfl⟩
end Go.Proofs.YtcikenlflcofbaaGreatDoor
namespace Go.Proofs.YtcikenlflcofbaaGreatDoor
open Go.RowKit
theorem zlp:(Tryz.prog.info? 40).map (fun i=>(i.zero,i.size,i.bytes))=some (some (.agg #[.string ⟨#[]⟩,.int .i64 0]),2,24):=by kernel_rfl
theorem zjV (A:Option Addr) (c n:Nat) (cells:List Value) (w:World) (hs:Src w 2 A n cells) (hA:A=Option.none→n=0) (h1:∀ u∈cells,u.oneCell'=true) (hn:n≤100000) :
    Calls Tryz.prog 26 #[.slice A n c] w (RetRow 40 2 n cells w):=by
  obtain ⟨i0,hi,hz0,hz1,hz2⟩:=info_parts zlp;have hnil:=fun wx=>Lib.run_eql_slice_nil (P := Tryz.prog) wx 23 40 A n c 0 0 Tryz.underlying23
  cases A with
  | none =>
    obtain rfl:=hA rfl;have hc:cells=[]:=List.eq_nil_of_length_eq_zero (by simpa using hs.1);subst hc;go_enter Tryz.func26,Tryz.ntmps26;go_wp2;go_ret
    exact RetRow.mk (World.ownsRow_nil _ w.heap.size _ _) (Nat.le_refl _) (Below.refl _ _)
  | some ad =>
    have hs2:Src (w.alloc (Obj.cells #[] 40)) 2 (some ad) n cells:=⟨hs.1,fun hpos=>by
      obtain ⟨ad',e,hcell⟩:=hs.2 hpos;exact ⟨ad',e,fun j u hu=>by rw [World.cell?_alloc_lt w _ _ (block_lt_of_cell (hcell j u hu))];exact hcell j u hu⟩⟩
    have hown:(w.alloc (Obj.cells #[] 40)).ownsRow w.heap.size 40 2 (.slice (some ⟨w.heap.size,0,none⟩) 0 0) 0 []:=World.ownsRow_made w #[] 0 (Nat.le_refl _) (Nat.zero_le _) rfl;have hb:=zaa w (Obj.cells #[] 40);have HS:=Hi hs2;have HO:=Hi hown;clear hs hs2 hown hA;go_enter Tryz.func26,Tryz.ntmps26
    go_wp2_with (first
      | (at_builtin;refine za4 _ _ 23 rfl rfl Tryz.underlying23 hi hz0 hz1 hz2 rfl (by decide) rfl HO.out hb rfl HS.out h1 (by unfold maxLen;omega) (by omega) (by simp) ?_;intro v' w' hown' hbel' _))
    go_ret
    exact RetRow.mk (by simpa using hown') (Nat.le_refl _) hbel'
end Go.Proofs.YtcikenlflcofbaaGreatDoor
