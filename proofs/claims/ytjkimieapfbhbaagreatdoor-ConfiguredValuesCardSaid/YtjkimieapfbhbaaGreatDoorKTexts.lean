/-
 Words for memory that the later texts of this seat share: a slice that reads as a list (nil let in), what a later world keeps of it, and the row's last step behind a call that left all old memory as it was. No program is named here.
-/
import Derived.WalkKit
import Derived.WalkSpells
import Derived.WalkLawsBesides
import Derived.ProofKit
import Derived.Lib.Hide
import Derived.Deep.QuietTactic
import Derived.BigQuiet
import Derived.Deep.Draws
import Derived.Deep.Slices
import Derived.Deep.Fields
import Derived.Deep.MidRow
import Derived.Deep.WholeRow
import Derived.Deep.AppendLies
import Derived.Deep.RegionHeld3
import Derived.Laws.OwnMore
import Derived.Laws.Rows
import Derived.Maps.AppendAt
import Derived.Test.YtjkimieapfbhbaaGreatDoorRows
import Derived.Test.YtjkimieapfbhbaaGreatDoorShelf
open Option renaming none → C
open Go.Value renaming string → D, int → F, slice → G
open Nat renaming le_refl → I, zero_le → L, zero_add → O
open Go.Ending renaming returned → J
open Go.World renaming ownsRow_nil → M
namespace Go.Proofs.YtjkimieapfbhbaaGreatDoor
open Go.RowKit
theorem Hd {p:Prop} (h:p):Hid p:=Lib.hid h
theorem zcv {B:Nat} {W w1:World} (hb:Below B W w1):(∀ b o,b<B→w1.cell? ⟨b,o,C⟩=W.cell? ⟨b,o,C⟩)∧(∀ b o,b<B→w1.frozen? ⟨b,o,C⟩=W.frozen? ⟨b,o,C⟩):=
 ⟨fun b o h=>hb.cell (p:=⟨b,o,C⟩) h,fun b o h=>hb.frozen (p:=⟨b,o,C⟩) h⟩
theorem zag {B:Nat} {a w:World} (h:Below B a w) (n:Nat):Below B a (w.drewN n):=⟨h.os,h.tape,h.output,h.size,h.block⟩
theorem zaP {k:IntKind} {a b:Int} (h:a=b):Ending.returned (.int k a) = J (.int k b):=by rw [h]
def Mono {α:Type} (R:World→Nat→List Value→α→Prop):Prop:=∀ w w' B B' cs x,B≤B'→Below B w w'→R w B cs x→R w' B' cs x
def Rws {α:Type} (R:World→Nat→List Value→α→Prop) (size:Nat) (w:World) (B:Nat) (A:Option Addr) (n:Nat) (xs:List α):Prop:=
 xs.length=n∧(0<n→∃ b o,A=some ⟨b,o,C⟩∧b<B∧∀ k x,xs[k]? = some x→∃ cs,cs.length=size∧R w B cs x∧w.rangeAt b (o+k*size) cs)
theorem zbr {w w':World} {B b o:Nat} {cs:List Value} (h:w.rangeAt b o cs) (hb:Below B w w') (hB:b<B):w'.rangeAt b o cs:=
 fun j v hv=>(hb.cell (p:=⟨b,o+j,C⟩) hB).trans (h j v hv)
theorem Rws.mono {α:Type} {R:World→Nat→List Value→α→Prop} (hR:Mono R) {size B B' n:Nat} {w w':World} {A:Option Addr} {xs:List α} (hB:B≤B') (hb:Below B w w') (h:Rws R size w B A n xs):Rws R size w' B' A n xs:=by
 refine ⟨h.1,fun hn => ?_⟩
 obtain ⟨b,o,e,hlt,hr⟩:=h.2 hn;refine ⟨b,o,e,by omega,fun k x hx => ?_⟩
 obtain ⟨cs,hl,hc,hat⟩:=hr k x hx;exact ⟨cs,hl,hR _ _ _ _ _ _ hB hb hc,zbr hat hb hlt⟩
def SliceOf {α:Type} (R:World→Nat→List Value→α→Prop) (size:Nat) (w:World) (B:Nat) (cs:List Value) (xs:List α):Prop:=
 ∃ A c,cs=[G A xs.length c]∧xs.length≤c∧c≤maxLen∧Rws R size w B A xs.length xs
theorem SliceOf.mono {α:Type} {R:World→Nat→List Value→α→Prop} (hR:Mono R) (size:Nat):Mono (SliceOf R size):=by
 rintro w w' B B' cs xs hB hb ⟨A,c,rfl,h1,h2,h3⟩
 exact ⟨A,c,rfl,h1,h2,h3.mono hR hB hb⟩
theorem Rws.at_ {α:Type} {R:World→Nat→List Value→α→Prop} {size B n:Nat} {w:World} {A:Option Addr} {xs:List α} (h:Rws R size w B A n xs) {k:Nat} (hk:k<n) :
 ∃ b o cs x,A=some ⟨b,o,C⟩∧b<B∧xs[k]? = some x∧cs.length=size∧R w B cs x∧w.rangeAt b (o+k*size) cs:=by
 obtain ⟨b,o,e,hlt,hr⟩:=h.2 (by omega);have hl:k<xs.length:=by have:=h.1;omega
 obtain ⟨cs,h1,h2,h3⟩:=hr k _ (List.getElem?_eq_getElem hl);exact ⟨b,o,cs,_,e,hlt,List.getElem?_eq_getElem hl,h1,h2,h3⟩
theorem Rws.all_ {α:Type} {R:World→Nat→List Value→α→Prop} {size B n:Nat} {w:World} {A:Option Addr} {xs:List α} (h:Rws R size w B A n xs):∀ x∈xs,∃ cs,R w B cs x:=by
 intro x hx;obtain ⟨k,hk⟩:=List.getElem?_of_mem hx;have hl:k<n:=by have:=(List.getElem?_eq_some_iff.1 hk).1;have:=h.1;omega
 obtain ⟨b,o,cs,y,_,_,hy,_,hR,_⟩:=h.at_ hl;rw [hk] at hy
 cases hy
 exact ⟨cs,hR⟩
def StrC (_:World) (_:Nat) (cs:List Value) (s:ByteArray):Prop:=cs=[D s]∧s.size≤maxLen
theorem StrC.mono:Mono StrC:=fun _ _ _ _ _ _ _ _ h=>h
def IntC (_:World) (_:Nat) (cs:List Value) (n:Int):Prop:=cs=[.int .i64 n]∧(Lit.int .i64 n).wf=true
theorem IntC.mono:Mono IntC:=fun _ _ _ _ _ _ _ _ h=>h
def BoolC (_:World) (_:Nat) (cs:List Value) (b:Bool):Prop:=cs=[.bool b]
theorem BoolC.mono:Mono BoolC:=fun _ _ _ _ _ _ _ _ h=>h
theorem Rws.strAt {B n:Nat} {w:World} {A:Option Addr} {xs:List ByteArray} (h:Rws StrC 1 w B A n xs) {k:Nat} (hk:k<n) :
 ∃ b o s,A=some ⟨b,o,C⟩∧b<B∧xs[k]? = some s∧s.size≤maxLen∧w.cell? ⟨b,o+k,C⟩=some (D s):=by
 obtain ⟨b,o,cs,x,e,hlt,hx,_,⟨rfl,hs⟩,hat⟩:=h.at_ hk;exact ⟨b,o,x,e,hlt,hx,hs,by simpa using hat 0 _ rfl⟩
theorem Rws.of_own {α:Type} {R:World→Nat→List Value→α→Prop} {size base n c:Nat} {e:TypeId} {w:World} {A:Option Addr} {xs:List α} {f:α→List Value}
 (h:w.ownsRow base e size (G A n c) n (xs.flatMap f)) (hn:xs.length=n) (hf:∀ x∈xs,(f x).length=size) (hR:∀ x∈xs,R w w.heap.size (f x) x):Rws R size w w.heap.size A n xs:=by
 refine ⟨hn,fun hpos => ?_⟩
 obtain ⟨g,cap,hv,_,hlt⟩:=h.form hpos;have hA:A=some ⟨g,0,C⟩:=by injection hv
 subst hA;refine ⟨g,0,rfl,hlt,fun k x hx => ?_⟩
 have hmem:x∈xs:=List.mem_of_getElem? hx;refine ⟨f x,hf x hmem,hR x hmem,fun j v hv => ?_⟩
 have hj:j<size:=by have:=hf x hmem;have:=(List.getElem?_eq_some_iff.1 hv).1;omega
 have key:∀ (l:List α) (k:Nat),(∀ y∈l,(f y).length=size)→l[k]? = some x→(l.flatMap f)[k*size+j]? = some v:=by
  intro l
  induction l with
  | nil=>intro k _ hk;simp at hk
  | cons y l ih =>
    intro k hy hk
    have hly:(f y).length=size:=hy y (by simp)
    cases k with
    | zero =>
      simp only [List.getElem?_cons_zero,Option.some.injEq] at hk
      subst hk
      rw [List.flatMap_cons,List.getElem?_append_left (by omega)]
      simpa using hv
    | succ k =>
      rw [List.getElem?_cons_succ] at hk
      rw [List.flatMap_cons,List.getElem?_append_right (by rw [hly,Nat.succ_mul];omega),hly]
      have:=ih k (fun z hz=>hy z (by simp [hz])) hk
      rw [Nat.succ_mul]
      rw [show k*size+size+j-size=k*size+j by omega]
      exact this
 have h2:=h.cells (g:=g) rfl _ _ (key xs k hf hx);rw [Addr.add_mid] at h2;simpa [Nat.add_assoc] using h2
theorem Rws.of_ownStr {base n c:Nat} {e:TypeId} {w:World} {A:Option Addr} {xs:List ByteArray} (h:w.ownsRow base e 1 (G A n c) n (xs.map D)) (hs:∀ s∈xs,s.size≤maxLen):Rws StrC 1 w w.heap.size A n xs:=by
 refine Rws.of_own (f:=fun s=>[D s]) (base:=base) (e:=e) (c:=c) ?_ ?_ (fun _ _=>rfl) (fun x hx=>⟨rfl,hs x hx⟩)
 · simpa [List.map_eq_flatMap] using h
 · have:=h.1;simpa using this
theorem below_self {w w':World} (h:Below w.heap.size w w'):Below w.heap.size w w':=h
theorem zac {w:World} {base:Nat} {e:TypeId} {size n:Nat} {v:Value} {xs:List Value} (h:w.ownsRow base e size v n xs):∃ A c,v = G A n c∧n≤c∧c≤maxLen:=by
 rcases h.2 with ⟨rfl,rfl⟩ | ⟨g,cap,cur,rfl,_,_,h1,h2,_⟩
 · exact ⟨C,0,rfl,I _,L _⟩
 · exact ⟨_,cap,rfl,h1,h2⟩
theorem zao {w:World} {base base':Nat} {e:TypeId} {size n:Nat} {v:Value} {xs:List Value} (h:w.ownsRow base e size v n xs) (hb:base'≤base):w.ownsRow base' e size v n xs:=by
 refine ⟨h.1,?_⟩
 rcases h.2 with h | ⟨g,cap,cur,h1,h2,h3⟩
 · exact .inl h
 · exact .inr ⟨g,cap,cur,h1,Nat.le_trans hb h2,h3⟩
theorem zab {w w':World} {base B:Nat} {e:TypeId} {size n:Nat} {v:Value} {xs:List Value} (h:w.ownsRow base e size v n xs) (hb:Below B w w') (hB:w.heap.size≤B):w'.ownsRow base e size v n xs:=by
 refine ⟨h.1,?_⟩
 rcases h.2 with h | ⟨g,cap,cur,h1,h2,h3,h4⟩
 · exact .inl h
 · refine .inr ⟨g,cap,cur,h1,h2,(hb.block g ?_).trans h3,h4⟩
   rcases Nat.lt_or_ge g w.heap.size with hlt | hge
   · omega
   · rw [Array.getElem?_eq_none hge] at h3;cases h3
def RetRow (t:TypeId) (size n:Nat) (cells:List Value) (w:World) (e:Ending) (w':World):Prop:=
 ∃ A c,e = J (G A n c)∧n≤c∧c≤maxLen∧w'.ownsRow w.heap.size t size (G A n c) n cells∧Below w.heap.size w w'
theorem RetRow.mk {t:TypeId} {size n:Nat} {cells:List Value} {w w':World} {v:Value} {base:Nat} (h:w'.ownsRow base t size v n cells) (hb:w.heap.size≤base) (hbel:Below w.heap.size w w'):RetRow t size n cells w (J v) w':=by
 obtain ⟨A,c,rfl,h1,h2⟩:=zac h;exact ⟨A,c,rfl,h1,h2,zao h hb,hbel⟩
def zaG (b:Bool) (w:World) (e:Ending) (w':World):Prop:=e = J (.bool b)∧Below w.heap.size w w'
theorem zaK {P:Program} {ops:Array Oper} {rest:List Oper} {o:Oper} {a:Act} {Q:Exit→Act→World→Prop} (s x:Operand) (t:TypeId) {base:Nat} {e:TypeId} {i:TypeInfo} {z:Value} {size bytes:Nat}
 {v:Value} {n:Nat} {xs:List Value} {w1 wr:World} {news:Array Value} (hgd:o.guard=C)
 (ho:o.op = .call { callee := .builtin .append,args := #[s,x],argTypes := #[t,t] })
 (ht:P.underlying t=some (.slice e)) (hi:P.info? e=some i) (hz:i.zero=some z) (hsize:i.size=size) (hby:i.bytes=bytes) (hzs:z.cells.size=size) (hsz:0<size)
 (hs:a.eval s=v) (hown:wr.ownsRow base e size v n xs) (hbel:Below base w1 wr) (H:Nat) (hH:wr.heap.size=H) (hx:a.eval x = G (some ⟨H,0,C⟩) 1 1) (hn:news.size=size) (h1:∀ u∈news.toList,u.oneCell'=true)
 (hbytes:(n+1)*bytes≤140737488355328) (hmax:n+1≤maxLen) (hbase:base≤wr.heap.size)
 (h:∀ v' w',w'.ownsRow base e size v' (n+1) (xs++news.toList)→Below base w1 w'→wr.heap.size≤w'.heap.size→wpList P ops Q rest (a.put o.dst v') w') :
 wpList P ops Q (o::rest) a (wr.alloc (.cells news e)):=by
 subst hH;have hb1:Below base w1 (wr.alloc (.cells news e)):=hbel.alloc hbase _;refine wpList_append_own_at _ hgd s x t ho base e i z size bytes ht hi hz hsize hby hzs hsz v n xs hs (hown.alloc _) ⟨wr.heap.size,0,C⟩ 1 1 news.toList hx (by simp [hn]) ?_ h1 hmax hbytes (by simp;omega) ?_
 · intro j u hu
   have h2:=cell_of_row (wr.alloc (.cells news e)) wr.heap.size j news e (0,0) (heap_alloc_new wr _)
   rw [Addr.add_mid,O,h2]
   simpa using hu
 · intro v' w' hown' hg _ hat
   have hsz':=hg.size
   simp only [World.size_alloc] at hsz'
   refine h v' w' hown' (hb1.grown hg (by simp;omega) fun k hk => ?_) (by omega)
   exact (hown.lt k hk).1
theorem zgq {P:Program} (src dst e:TypeId) (hs:P.underlying src=some (.slice e)) (he:P.underlying e=some (.int .u8)) (hd:P.underlying dst=some .string) (c:UInt8) (n:Int) (hn:n=(c.toNat:Int)) (wr:World) :
 (convert src dst (G (some ⟨wr.heap.size,0,C⟩) 1 1)).run P (wr.alloc (.cells #[F .u8 n] e)) = .ok (D ⟨#[c]⟩) (wr.alloc (.cells #[F .u8 n] e)):=by
 refine run_convert_bytes_back (P:=P) (wr.alloc (.cells #[F .u8 n] e)) src dst e ⟨wr.heap.size,0,C⟩ 1 [c] hs he hd ?_
 intro j hj;have h0:j=0:=by simp at hj;omega
 subst h0;have h2:=cell_of_row (wr.alloc (.cells #[F .u8 n] e)) wr.heap.size 0 _ e (0,0) (heap_alloc_new wr _);rw [Addr.add_mid,O,h2];simp [hn]
def zbW (t:TypeId) (size B:Nat) (w1:World) (lim:Nat) (cnt:Nat→Nat) (f:Nat→List Value) (v i:Value) (wr:World):Prop:=
 ∃ k:Nat,k≤lim∧i = F .i64 k∧wr.ownsRow B t size v (cnt k) (f k)∧Below B w1 wr
def zco (B:Nat) (w1:World) (lim:Nat) (p:Nat→Prop) (i:Value) (wr:World):Prop:=∃ k:Nat,k≤lim∧i = F .i64 k∧p k∧Below B w1 wr
def Src (w:World) (size:Nat) (A:Option Addr) (n:Nat) (xs:List Value):Prop:=
 xs.length=n*size∧(0<n→∃ ad,A=some ad∧∀ j u,xs[j]? = some u→w.cell? (ad.add j)=some u)
theorem Src.of_own {w:World} {base size n c:Nat} {e:TypeId} {A:Option Addr} {xs:List Value} (h:w.ownsRow base e size (G A n c) n xs):Src w size A n xs:=by
 refine ⟨h.1,fun hn => ?_⟩
 obtain ⟨g,cap,hv,_,hlt⟩:=h.form hn;have hA:A=some ⟨g,0,C⟩:=by injection hv
 subst hA;exact ⟨_,rfl,h.cells (g:=g) rfl⟩
theorem zcq {P:Program} (w:World) (base:Nat) (t ty e:TypeId) (i:TypeInfo) (z:Value) (size bytes:Nat) (ht:P.underlying t=some (.slice e)) (hi:P.info? e=some i) (hz:i.zero=some z)
 (hsize:i.size=size) (hby:i.bytes=bytes) (hzs:z.cells.size=size) (hsz:0<size)
 (v:Value) (n:Nat) (xs:List Value) (hown:w.ownsRow base e size v n xs)
 (A:Option Addr) (m c:Nat) (news:List Value) (hr:Src w size A m news) (h1:∀ u∈news,u.oneCell'=true)
 (h63:n+m≤maxLen) (hbytes:(n+m)*bytes≤140737488355328) (hbase:base≤w.heap.size) :
 ∃ v' w',(Builtin.append_ #[t,t] ty #[v,G A m c]).run P w = .ok v' w'∧w'.ownsRow base e size v' (n+m) (xs++news)∧w.grownBy w' v.ownBlock ∧
  (v'.ownBlock=v.ownBlock∨v'.ownBlock=some w.heap.size):=by
 rcases A with _ | ad
 · have hm:m=0:=by
    rcases Nat.eq_zero_or_pos m with h0 | h0
    · exact h0
    · obtain ⟨ad,h,_⟩:=hr.2 h0
      cases h
   subst hm
   have hn:news=[]:=List.eq_nil_of_length_eq_zero (by simpa using hr.1)
   subst hn
   refine ⟨v,w,?_,by simpa using hown,World.grownBy.refl w _,.inl rfl⟩
   rcases hown.2 with ⟨rfl,rfl⟩ | ⟨g,cap,cur,rfl,_,_,hnc,_⟩
   · simp [Builtin.append_,run_underlying ht,sizeOf,typeInfo,hi,Builtin.lenOf,Builtin.firstCells]
   · simp [Builtin.append_,run_underlying ht,sizeOf,typeInfo,hi,Builtin.lenOf,Builtin.firstCells,hnc,storeCells]
 · have hcells:∀ j u,news[j]? = some u→w.cell? (ad.add j)=some u:=by
    intro j u hu
    rcases Nat.eq_zero_or_pos m with h0 | h0
    · subst h0
      have hn:news=[]:=List.eq_nil_of_length_eq_zero (by simpa using hr.1)
      subst hn
      simp at hu
    · obtain ⟨ad',h,hc⟩:=hr.2 h0
      injection h with h
      subst h
      exact hc j u hu
   obtain ⟨v',w',hrun,h2,h3,_,h5⟩:=run_append_own_at (P:=P) w base t ty e i z size bytes ht hi hz hsize hby hzs hsz v n xs hown ad m c news hr.1 hcells h1 h63 hbytes hbase
   exact ⟨v',w',hrun,h2,h3,h5⟩
theorem zdJ {P:Program} {w:World} {o:Oper} {a:Act} {K:Act→World→Prop} {Q:Exit→Act→World→Prop} (s x:Operand) (t:TypeId)
 {base:Nat} {e:TypeId} {i:TypeInfo} {z:Value} {size bytes:Nat} {v:Value} {n:Nat} {xs:List Value} {A:Option Addr} {m c:Nat} {news:List Value} {w1:World}
 (ho:o.op = .call { callee := .builtin .append,args := #[s,x],argTypes := #[t,t] })
 (ht:P.underlying t=some (.slice e)) (hi:P.info? e=some i) (hz:i.zero=some z) (hsize:i.size=size) (hby:i.bytes=bytes) (hzs:z.cells.size=size) (hsz:0<size)
 (hs:a.eval s=v) (hown:w.ownsRow base e size v n xs) (hbel:Below base w1 w) (hx:a.eval x = G A m c) (hr:Src w size A m news) (h1:∀ u∈news,u.oneCell'=true)
 (h63:n+m≤maxLen) (hbytes:(n+m)*bytes≤140737488355328) (hbase:base≤w.heap.size)
 (h:∀ v' w',w'.ownsRow base e size v' (n+m) (xs++news)→Below base w1 w'→w.heap.size≤w'.heap.size→K (a.put o.dst v') w'):o.wp P a w K Q:=by
 obtain ⟨v',w',hrun,h2,h3,h4⟩:=zcq (P:=P) w base t o.type e i z size bytes ht hi hz hsize hby hzs hsz v n xs hown A m c news hr h1 h63 hbytes hbase;unfold Oper.wp execOp;simp only [ho,resolve,invoke,builtin,Sem.run_bind,Sem.run_pure,Result.andThen_ok,List.map_toArray,List.map_cons,List.map_nil,hs,hx,hrun];exact h v' w' h2 (hbel.grown h3 hbase fun k hk=>(hown.lt k hk).1) h3.size
theorem zbV {P:Program} {w:World} {ops:Array Oper} {rest:List Oper} {o:Oper} {a:Act} {Q:Exit→Act→World→Prop} (s x:Operand) (t:TypeId)
 {base:Nat} {e:TypeId} {i:TypeInfo} {z:Value} {size bytes:Nat} {v:Value} {n:Nat} {xs:List Value} {A:Option Addr} {m c:Nat} {news:List Value} {w1:World} (hgd:o.guard=C)
 (ho:o.op = .call { callee := .builtin .append,args := #[s,x],argTypes := #[t,t] })
 (ht:P.underlying t=some (.slice e)) (hi:P.info? e=some i) (hz:i.zero=some z) (hsize:i.size=size) (hby:i.bytes=bytes) (hzs:z.cells.size=size) (hsz:0<size)
 (hs:a.eval s=v) (hown:w.ownsRow base e size v n xs) (hbel:Below base w1 w) (hx:a.eval x = G A m c) (hr:Src w size A m news) (h1:∀ u∈news,u.oneCell'=true)
 (h63:n+m≤maxLen) (hbytes:(n+m)*bytes≤140737488355328) (hbase:base≤w.heap.size)
 (h:∀ v' w',w'.ownsRow base e size v' (n+m) (xs++news)→Below base w1 w'→w.heap.size≤w'.heap.size→wpList P ops Q rest (a.put o.dst v') w'):wpList P ops Q (o::rest) a w:=
 wpList_plain hgd fun _ hK=>zdJ s x t ho ht hi hz hsize hby hzs hsz hs hown hbel hx hr h1 h63 hbytes hbase fun v' w' h2 h3 h4=>hK _ _ (h v' w' h2 h3 h4)
theorem zcm {P:Program} {w:World} {ops:Array Oper} {o:Oper} {a:Act} {K:Act→World→Prop} {Q:Exit→Act→World→Prop} {E:Prop} (s x:Operand) (t:TypeId)
 {base:Nat} {e:TypeId} {i:TypeInfo} {z:Value} {size bytes:Nat} {v:Value} {n:Nat} {xs:List Value} {A:Option Addr} {m c:Nat} {news:List Value} {w1:World} (hgd:o.guard=C)
 (ho:o.op = .call { callee := .builtin .append,args := #[s,x],argTypes := #[t,t] })
 (ht:P.underlying t=some (.slice e)) (hi:P.info? e=some i) (hz:i.zero=some z) (hsize:i.size=size) (hby:i.bytes=bytes) (hzs:z.cells.size=size) (hsz:0<size)
 (hs:a.eval s=v) (hown:w.ownsRow base e size v n xs) (hbel:Below base w1 w) (hx:a.eval x = G A m c) (hr:Src w size A m news) (h1:∀ u∈news,u.oneCell'=true)
 (h63:n+m≤maxLen) (hbytes:(n+m)*bytes≤140737488355328) (hbase:base≤w.heap.size)
 (h:∀ v' w',w'.ownsRow base e size v' (n+m) (xs++news)→Below base w1 w'→w.heap.size≤w'.heap.size→K (a.put o.dst v') w') :
 if Region.wanted o (yielded ops a.tmps)=true then Oper.wp P o a w K Q else E:=by
 have hw:Region.wanted o (yielded ops a.tmps)=true:=by simp [Region.wanted,hgd]
 rw [if_pos hw];exact zdJ s x t ho ht hi hz hsize hby hzs hsz hs hown hbel hx hr h1 h63 hbytes hbase h
theorem za8 {B B':Nat} {a a' b:World} (h:Below B a' b) (ho:a'.os=a.os) (ht:a'.tape=a.tape) (hu:a'.output=a.output) (hh:a'.heap=a.heap) (hB:B'≤B):Below B' a b:=
 ⟨h.os.trans ho,h.tape.trans ht,h.output.trans hu,by have:=h.size;rw [hh] at this;exact this,fun k hk=>by have:=h.block k (by omega);rw [hh] at this;exact this⟩
def zbG (w:World) (b o n:Nat):Option (List Value):=(List.range n).mapM fun j=>w.cell? ⟨b,o+j,C⟩
theorem zgB {α β:Type} (f:α→Option β):∀ (l:List α) (ys:List β),l.length=ys.length→(∀ (k:Nat) x y,l[k]? = some x→ys[k]? = some y→f x=some y)→l.mapM f=some ys
 | [],[],_,_=>rfl
 | x::l,y::ys,hl,h=>by
   have h0:=h 0 x y rfl rfl
   have h1:=zgB f l ys (by simpa using hl) (fun k a b ha hb=>h (k+1) a b (by simpa using ha) (by simpa using hb))
   simp [List.mapM_cons,h0,h1]
theorem zbs {w:World} {b o n:Nat} {cs:List Value} (h:w.rangeAt b o cs) (hn:cs.length=n):zbG w b o n=some cs:=by
 refine zgB _ _ _ (by simp [hn]) fun k x y hx hy => ?_
 have hk:k<n:=by have:=(List.getElem?_eq_some_iff.1 hx).1;simpa using this
 have hx':x=k:=by simpa [List.getElem?_range hk] using hx.symm
 subst hx';exact h _ y hy
theorem zdF {α β:Type} (f:α→Option β):∀ (l:List α) (ys:List β),l.mapM f=some ys→l.length=ys.length∧(∀ (k:Nat) x,l[k]? = some x→f x=ys[k]?)
 | [],ys,h=>by simp at h;subst h;exact ⟨rfl,fun k x hx=>by simp at hx⟩
 | x::l,ys,h=>by
   cases hf:f x with
   | none=>simp [List.mapM_cons,hf] at h
   | some y =>
     cases hm:l.mapM f with
     | none=>simp [List.mapM_cons,hf,hm] at h
     | some zs =>
       simp [List.mapM_cons,hf,hm] at h
       subst h
       obtain ⟨h1,h2⟩:=zdF f l zs hm
       refine ⟨by simp [h1],fun k a ha => ?_⟩
       cases k with
       | zero=>simp at ha;subst ha;simpa using hf
       | succ k=>simp at ha ⊢;exact h2 k a ha
theorem zcL {w:World} {b o n:Nat} {cs:List Value} (h:zbG w b o n=some cs):cs.length=n∧w.rangeAt b o cs:=by
 obtain ⟨h1,h2⟩:=zdF _ _ _ h;refine ⟨by simpa using h1.symm,fun j v hv => ?_⟩
 have hj:j<n:=by have:=(List.getElem?_eq_some_iff.1 hv).1;simp at h1;omega
 have:=h2 j j (by simp [List.getElem?_range hj]);rw [this,hv]
theorem zal {w w':World} {B b o n:Nat} {cs:List Value} (h:zbG w b o n=some cs) (hb:Below B w w') (hB:b<B):zbG w' b o n=some cs:=
 zbs (zbr (zcL h).2 hb hB) (zcL h).1
@[simp] theorem rowAt_drew (w:World) (b o n:Nat):zbG w.drew b o n=zbG w b o n:=rfl
@[simp] theorem rowAt_drewN (w:World) (k b o n:Nat):zbG (w.drewN k) b o n=zbG w b o n:=rfl
def zl0 (t:TypeId) (v:Value):Sem Value:=Instr.loadAt t v
theorem zj4 {P:Program} (t:TypeId) (n:Nat) {d:TypeDesc} (hu:P.underlying t=some d) (hd:d.isRow=true) (hi:(P.info? t).map (·.size)=some n) (b o:Nat) (w:World) :
 (zl0 t (.pointer (some ⟨b,o,C⟩))).run P w=match zbG w b o n with
  | some cs => .ok (.agg cs.toArray) w
  | Option.none=>(Instr.loadAt t (.pointer (some ⟨b,o,C⟩))).run P w:=by
 cases h:zbG w b o n with
 | none=>rfl
 | some cs =>
   obtain ⟨h1,h2⟩:=zcL h
   exact run_loadAt_mid w b o t cs d h2 hu hd (by rw [h1];exact hi)
def zjn (t:TypeId) (p v:Value):Sem Unit:=Instr.storeAt t p v
def zdi (n:Nat) (cs:List Value):Prop:=cs.length=n∧∀ v∈cs,v.oneCell'=true
theorem zjc {P:Program} (t:TypeId) (n:Nat) (hi:(P.info? t).map (·.size)=some n) (w:World) (z:Array Value) (cs:List Value) (g:Nat) (hg:g=w.heap.size) (hz:z.size=n) (hb:zdi n cs) :
 (zjn t (.pointer (some ⟨g,0,C⟩)) (.agg cs.toArray)).run P (w.alloc (.cells z t)) = .ok () (w.alloc (.cells cs.toArray t)):=by
 subst hg;refine run_storeAt_new w t z cs.toArray ?_ ?_ (all_oneCell_toArray hb.2)
 · rw [hi];simp [hb.1]
 · simp [hz,hb.1]
theorem zcB (w:World) (cs:List Value) (t:TypeId) (g n:Nat) (hg:g=w.heap.size) (hb:zdi n cs):zbG (w.alloc (.cells cs.toArray t)) g 0 n=some cs:=by
 subst hg;refine zbs (fun j v hv => ?_) hb.1
 have h2:=cell_of_row (w.alloc (Obj.cells cs.toArray t)) w.heap.size j _ t (0,0) (heap_alloc_new w _);rw [O,h2];simpa using hv
theorem cell?_alloc_old (w:World) (o:Obj) (b k:Nat) (h:b<w.heap.size):(w.alloc o).cell? ⟨b,k,C⟩=w.cell? ⟨b,k,C⟩:=World.cell?_alloc_lt w o ⟨b,k,C⟩ h
theorem zeG (w:World) (ob:Obj) (b o n:Nat) (h:b<w.heap.size):zbG (w.alloc ob) b o n=zbG w b o n:=by
 unfold zbG
 congr 1
 funext j
 exact cell?_alloc_old w ob b (o+j) h
section
open Go.WideShapes Go.ChangeShapes
variable {H : Type} {enc : TypeId × Value → H} {P : Program}
theorem zfN {f:Func} {s:ChangeSpec} {apart fresh handsOn again:Bool} {W W':World} {args:Array Value} {v:Value} {ds gs:List (DataW H)} {before pa pv:List MemPlace}
 (hW:DataW.Whole enc P f.params.toList s.vars apart W args.toList ds gs before)
 (hres:∀ (b:Nat) (sp:Nat→Bool) (hd:Bool),DataW.TrodAll enc P W' b sp hd f.resultTypes.toList (v.resultList f.resultTypes.size) (s.fn H (ds++gs)).results [])
 (hargs:∀ sp:Nat→Bool,(∀ p∈before,sp p.block=true)→DataW.TrodAll enc P W' 0 sp true f.params.toList args.toList (s.fn H (ds++gs)).args pa)
 (hvars:∀ sp:Nat→Bool,(∀ p∈before,sp p.block=true)→DataW.TrodVars enc P W' sp s.vars (s.fn H (ds++gs)).vars pv)
 (hps:before=pa++pv) (hb:Below W.heap.size W W')
 (hok:∀ (j:Nat) (t:TypeId) (r:Value),f.resultTypes[j]? = some t→(v.resultList f.resultTypes.size)[j]? = some r→Value.okWide P W' .any 0 t r) :
 s.post enc P f apart fresh handsOn again W args v W':=by
 have hlt:∀ p∈before,p.block<W.heap.size:=fun p hp=>hW.lt p hp
 have hold:∀ p∈before,(fun b=>decide (b<W.heap.size)) p.block=true:=fun p hp=>by simpa using hlt p hp
 refine ⟨ds,gs,before,[],pa,pv,hW,hres _ _ _,hargs _ hold,hvars _ hold,World.keptBut_mono (fun p hp=>⟨hp,?_⟩) (hb.frame (· ∈ before)),fun _ => ?_⟩
 · rw [hps,List.mem_append] at hp
   exact Or.inr hp
 · obtain ⟨_,_,_,_,_,hz,hn⟩:=hW
   refine ⟨hok,_,_,([]++pa)++pv,⟨[]++pa,pv,trodAll_append (hargs _ (fun _ _=>rfl)) (hres _ _ _),hvars _ (fun _ _=>rfl),rfl,?_,?_⟩,?_⟩
   · intro b off hp
     have hin:MemPlace.cell b off∈before:=by rw [hps];simpa using hp
     rw [hb.frozen (hlt _ hin)]
     exact hz b off hin
   · intro ha
     have:=hn ha
     rw [hps] at this
     simpa using this
   · intro p hp _
     rw [hps]
     simpa using hp
end
theorem kb3 {B g:Nat} {w w':World} (h:Below B w w') (l:g<B) {o0 o1 o2:Nat} {a0 a1 a2:Option Value} (q:w.cell? ⟨g,o0,C⟩=a0∧w.cell? ⟨g,o1,C⟩=a1∧w.cell? ⟨g,o2,C⟩=a2):w'.cell? ⟨g,o0,C⟩=a0∧w'.cell? ⟨g,o1,C⟩=a1∧w'.cell? ⟨g,o2,C⟩=a2:=by
 rw [h.cell (p:=⟨g,o0,C⟩) l,h.cell (p:=⟨g,o1,C⟩) l,h.cell (p:=⟨g,o2,C⟩) l]
 exact q
theorem kb4 {B g:Nat} {w w':World} (h:Below B w w') (l:g<B) {o0 o1 o2 o3:Nat} {a0 a1 a2 a3:Option Value} (q:w.cell? ⟨g,o0,C⟩=a0∧w.cell? ⟨g,o1,C⟩=a1∧w.cell? ⟨g,o2,C⟩=a2∧w.cell? ⟨g,o3,C⟩=a3):w'.cell? ⟨g,o0,C⟩=a0∧w'.cell? ⟨g,o1,C⟩=a1∧w'.cell? ⟨g,o2,C⟩=a2∧w'.cell? ⟨g,o3,C⟩=a3:=by
 rw [h.cell (p:=⟨g,o0,C⟩) l,h.cell (p:=⟨g,o1,C⟩) l,h.cell (p:=⟨g,o2,C⟩) l,h.cell (p:=⟨g,o3,C⟩) l]
 exact q
theorem kb5 {B g:Nat} {w w':World} (h:Below B w w') (l:g<B) {o0 o1 o2 o3 o4:Nat} {a0 a1 a2 a3 a4:Option Value} (q:w.cell? ⟨g,o0,C⟩=a0∧w.cell? ⟨g,o1,C⟩=a1∧w.cell? ⟨g,o2,C⟩=a2∧w.cell? ⟨g,o3,C⟩=a3∧w.cell? ⟨g,o4,C⟩=a4):w'.cell? ⟨g,o0,C⟩=a0∧w'.cell? ⟨g,o1,C⟩=a1∧w'.cell? ⟨g,o2,C⟩=a2∧w'.cell? ⟨g,o3,C⟩=a3∧w'.cell? ⟨g,o4,C⟩=a4:=by
 rw [h.cell (p:=⟨g,o0,C⟩) l,h.cell (p:=⟨g,o1,C⟩) l,h.cell (p:=⟨g,o2,C⟩) l,h.cell (p:=⟨g,o3,C⟩) l,h.cell (p:=⟨g,o4,C⟩) l]
 exact q
theorem kb6 {B g:Nat} {w w':World} (h:Below B w w') (l:g<B) {o0 o1 o2 o3 o4 o5:Nat} {a0 a1 a2 a3 a4 a5:Option Value} (q:w.cell? ⟨g,o0,C⟩=a0∧w.cell? ⟨g,o1,C⟩=a1∧w.cell? ⟨g,o2,C⟩=a2∧w.cell? ⟨g,o3,C⟩=a3∧w.cell? ⟨g,o4,C⟩=a4∧w.cell? ⟨g,o5,C⟩=a5):w'.cell? ⟨g,o0,C⟩=a0∧w'.cell? ⟨g,o1,C⟩=a1∧w'.cell? ⟨g,o2,C⟩=a2∧w'.cell? ⟨g,o3,C⟩=a3∧w'.cell? ⟨g,o4,C⟩=a4∧w'.cell? ⟨g,o5,C⟩=a5:=by
 rw [h.cell (p:=⟨g,o0,C⟩) l,h.cell (p:=⟨g,o1,C⟩) l,h.cell (p:=⟨g,o2,C⟩) l,h.cell (p:=⟨g,o3,C⟩) l,h.cell (p:=⟨g,o4,C⟩) l,h.cell (p:=⟨g,o5,C⟩) l]
 exact q
theorem kf3 {B g:Nat} {w w':World} (h:Below B w w') (l:g<B) {o0 o1 o2:Nat} {a0 a1 a2:Bool} (q:w.frozen? ⟨g,o0,C⟩=a0∧w.frozen? ⟨g,o1,C⟩=a1∧w.frozen? ⟨g,o2,C⟩=a2):w'.frozen? ⟨g,o0,C⟩=a0∧w'.frozen? ⟨g,o1,C⟩=a1∧w'.frozen? ⟨g,o2,C⟩=a2:=by
 rw [h.frozen (p:=⟨g,o0,C⟩) l,h.frozen (p:=⟨g,o1,C⟩) l,h.frozen (p:=⟨g,o2,C⟩) l]
 exact q
theorem kf4 {B g:Nat} {w w':World} (h:Below B w w') (l:g<B) {o0 o1 o2 o3:Nat} {a0 a1 a2 a3:Bool} (q:w.frozen? ⟨g,o0,C⟩=a0∧w.frozen? ⟨g,o1,C⟩=a1∧w.frozen? ⟨g,o2,C⟩=a2∧w.frozen? ⟨g,o3,C⟩=a3):w'.frozen? ⟨g,o0,C⟩=a0∧w'.frozen? ⟨g,o1,C⟩=a1∧w'.frozen? ⟨g,o2,C⟩=a2∧w'.frozen? ⟨g,o3,C⟩=a3:=by
 rw [h.frozen (p:=⟨g,o0,C⟩) l,h.frozen (p:=⟨g,o1,C⟩) l,h.frozen (p:=⟨g,o2,C⟩) l,h.frozen (p:=⟨g,o3,C⟩) l]
 exact q
theorem kf6 {B g:Nat} {w w':World} (h:Below B w w') (l:g<B) {o0 o1 o2 o3 o4 o5:Nat} {a0 a1 a2 a3 a4 a5:Bool} (q:w.frozen? ⟨g,o0,C⟩=a0∧w.frozen? ⟨g,o1,C⟩=a1∧w.frozen? ⟨g,o2,C⟩=a2∧w.frozen? ⟨g,o3,C⟩=a3∧w.frozen? ⟨g,o4,C⟩=a4∧w.frozen? ⟨g,o5,C⟩=a5):w'.frozen? ⟨g,o0,C⟩=a0∧w'.frozen? ⟨g,o1,C⟩=a1∧w'.frozen? ⟨g,o2,C⟩=a2∧w'.frozen? ⟨g,o3,C⟩=a3∧w'.frozen? ⟨g,o4,C⟩=a4∧w'.frozen? ⟨g,o5,C⟩=a5:=by
 rw [h.frozen (p:=⟨g,o0,C⟩) l,h.frozen (p:=⟨g,o1,C⟩) l,h.frozen (p:=⟨g,o2,C⟩) l,h.frozen (p:=⟨g,o3,C⟩) l,h.frozen (p:=⟨g,o4,C⟩) l,h.frozen (p:=⟨g,o5,C⟩) l]
 exact q
set_option maxRecDepth 100000
set_option maxHeartbeats 8000000
structure SubM where
 loc:ByteArray
 device:ByteArray
 set:ByteArray
 signal:ByteArray
structure RelayM where
 name:ByteArray
 kind:Int
 rules:List (ByteArray × ByteArray)
 sets:List (ByteArray × List ByteArray)
 pubs:List ByteArray
 subs:List SubM
def RuleC (_:World) (_:Nat) (cs:List Value) (r:ByteArray × ByteArray):Prop:=cs=[D r.1,D r.2]∧r.1.size≤maxLen∧r.2.size≤maxLen
theorem RuleC.mono:Mono RuleC:=fun _ _ _ _ _ _ _ _ h=>h
def SetC (w:World) (B:Nat) (cs:List Value) (d:ByteArray × List ByteArray):Prop:=∃ c,cs=[D d.1,c]∧d.1.size≤maxLen∧SliceOf StrC 1 w B [c] d.2
theorem SetC.mono:Mono SetC:=fun _ _ _ _ _ _ hB hb ⟨c,e,hs,h⟩=>⟨c,e,hs,SliceOf.mono StrC.mono 1 _ _ _ _ _ _ hB hb h⟩
def PubC (_:World) (_:Nat) (cs:List Value) (s:ByteArray):Prop:=∃ a b:Int,cs=[D s,F .i64 a,F .i64 b]∧s.size≤maxLen
theorem PubC.mono:Mono PubC:=fun _ _ _ _ _ _ _ _ h=>h
def SubC (_:World) (_:Nat) (cs:List Value) (s:SubM):Prop:=cs=[D s.loc,D s.device,D s.set,D s.signal]∧s.loc.size≤maxLen∧s.device.size≤maxLen∧s.set.size≤maxLen∧s.signal.size≤maxLen
theorem SubC.mono:Mono SubC:=fun _ _ _ _ _ _ _ _ h=>h
structure RelayC (w:World) (B:Nat) (cs:List Value) (r:RelayM):Prop where
 len:cs.length=53
 one:∀ v∈cs,v.oneCell'=true
 name:cs[0]? = some (D r.name)
 nameLen:r.name.size≤maxLen
 kind:cs[1]? = some (F .i64 r.kind)
 rules:∃ c,cs[49]? = some c∧SliceOf RuleC 2 w B [c] r.rules
 sets:∃ c,cs[50]? = some c∧SliceOf SetC 2 w B [c] r.sets
 pubs:∃ c,cs[51]? = some c∧SliceOf PubC 3 w B [c] r.pubs
 subs:∃ c,cs[52]? = some c∧SliceOf SubC 4 w B [c] r.subs
theorem RelayC.mono:Mono RelayC:=by
 intro w w' B B' cs x hB hb h;obtain ⟨c1,e1,s1⟩:=h.rules;obtain ⟨c2,e2,s2⟩:=h.sets;obtain ⟨c3,e3,s3⟩:=h.pubs;obtain ⟨c4,e4,s4⟩:=h.subs
 exact ⟨h.len,h.one,h.name,h.nameLen,h.kind,⟨c1,e1,SliceOf.mono RuleC.mono _ _ _ _ _ _ _ hB hb s1⟩,⟨c2,e2,SliceOf.mono SetC.mono _ _ _ _ _ _ _ hB hb s2⟩,
  ⟨c3,e3,SliceOf.mono PubC.mono _ _ _ _ _ _ _ hB hb s3⟩,⟨c4,e4,SliceOf.mono SubC.mono _ _ _ _ _ _ _ hB hb s4⟩⟩
structure RelayM.Small (r:RelayM):Prop where
 rules:r.rules.length≤20
 sets:r.sets.length≤8
 pubs:r.pubs.length≤8
 subs:r.subs.length≤30
 signals:∀ d∈r.sets,d.2.length≤30
def NoSays (P:Prop) (w:World) (e:Ending) (w':World):Prop:=∃ b:Bool,(b=false→P)∧e = J (.bool b)∧Below w.heap.size w w'
theorem zaa (w:World) (o:Obj):Below w.heap.size w (w.alloc o):=(Below.refl _ _).alloc (I _) _
theorem zcC {α:Type} {p:α→Prop} {xs:List α} {k:Nat} {x:α} (h:∀ j y,j<k→xs[j]? = some y→p y) (hx:xs[k]? = some x) (hp:p x):∀ j y,j<k+1→xs[j]? = some y→p y:=by
 intro j y hj hy
 rcases Nat.lt_succ_iff_lt_or_eq.1 hj with h' | rfl
 · exact h j y h' hy
 · rw [hx] at hy;cases hy;exact hp
theorem zgg {α:Type} {p:α→Prop} {xs:List α} (h:∀ j y,j<xs.length→xs[j]? = some y→p y):∀ y∈xs,p y:=by
 intro y hy;obtain ⟨j,hj⟩:=List.getElem?_of_mem hy;exact h j y ((List.getElem?_eq_some_iff.1 hj).1) hj
theorem zj1 (cs:List Value) (r:RelayM) (B:Nat) (w:World) (hB:B≤w.heap.size) (h:RelayC w B cs r) :
 Calls Tryz.prog 26 #[.agg cs.toArray] w (NoSays r.Small w):=by
 obtain ⟨c49,h49,A1,k1,e1,l1,m1,R1⟩:=h.rules;obtain ⟨c50,h50,A2,k2,e2,l2,m2,R2⟩:=h.sets;obtain ⟨c51,h51,A3,k3,e3,l3,m3,R3⟩:=h.pubs;obtain ⟨c52,h52,A4,k4,e4,l4,m4,R4⟩:=h.subs
 cases e1;cases e2;cases e3;cases e4
 clear h;unfold maxLen at m1 m2;have T:∀ w',Below w.heap.size w w'→NoSays r.Small w (J (.bool true)) w':=fun w' hb=>⟨true,(fun h=>absurd h (by decide)),rfl,hb⟩
 by_cases b1:r.rules.length≤20
 case neg =>
  have b1:(20:Int)<(r.rules.length:Int):=by omega
  go_enter Tryz.func26,Tryz.ntmps26;go_wp2;go_ret
  exact T _ (zaa _ _)
 by_cases b2:r.sets.length≤8
 case neg =>
  have b2:(8:Int)<(r.sets.length:Int):=by omega
  go_enter Tryz.func26,Tryz.ntmps26;go_wp2;go_ret
  exact T _ (zaa _ _)
 by_cases b3:r.pubs.length≤8
 case neg =>
  have b3:(8:Int)<(r.pubs.length:Int):=by omega
  go_enter Tryz.func26,Tryz.ntmps26;go_wp2;go_ret
  exact T _ (zaa _ _)
 by_cases b4:r.subs.length≤30
 case neg =>
  have b4:(30:Int)<(r.subs.length:Int):=by omega
  go_enter Tryz.func26,Tryz.ntmps26;go_wp2;go_ret
  exact T _ (zaa _ _)
 go_enter Tryz.func26,Tryz.ntmps26;go_wp2
 go_loop [3] (fun i=>∃ k:Nat,k≤r.sets.length∧i = F .i64 k∧∀ j y,j<k→r.sets[j]? = some y→y.2.length≤30) (fun i=>r.sets.length-(intOf i).toNat)
 case atStart=>exact ⟨0,L _,rfl,fun j y h=>absurd h (Nat.not_lt_zero _)⟩
 case round =>
  obtain ⟨k,hk,rfl,hall⟩:=hrel;have Hall:=Hd hall;clear hall
  by_cases hlt:k<r.sets.length
  · obtain ⟨b,o,ds,x,rfl,hbB,hx,-,⟨c,rfl,-,A5,k5,e5,l5,m5,R5⟩,hat⟩:=R2.at_ hlt
    cases e5
    have hc0:=hat 1 _ rfl
    have hb':b<w.heap.size:=by omega
    have HX:=Hd hx
    clear hx R2 R1 R3 R4 R5 hat
    by_cases b5:x.2.length≤30
    · go_wp2
      go_round
      case rel=>exact ⟨k+1,by omega,by go_num,zcC Hall.out HX.out b5⟩
      case measure=>simp [intOf];omega
    · have b5':(30:Int)<(x.2.length:Int):=by omega
      go_wp2
      go_ret
      exact T _ (zaa _ _)
  · have hse:k=r.sets.length:=by omega
    have HS:Hid (∀ d∈r.sets,d.2.length≤30):=by
     rw [hse] at Hall
     exact zgg Hall.out
    clear hse Hall R2 R3 R4
    go_wp2
    go_loop [4] (fun i=>∃ k:Nat,k≤r.rules.length∧i = F .i64 k) (fun i=>r.rules.length-(intOf i).toNat)
    case atStart=>exact ⟨0,L _,rfl⟩
    case round =>
     obtain ⟨m,hm,rfl⟩:=hrel
     by_cases hlt:m<r.rules.length
     · obtain ⟨b,o,ds,x,rfl,hbB,-,-,⟨rfl,-,-⟩,hat⟩:=R1.at_ hlt
       have hc0:=hat 1 _ rfl
       have hb':b<w.heap.size:=by omega
       clear R1 hat
       by_cases b5:x.2.size≤200
       · go_wp2
         go_round
         case rel=>exact ⟨m+1,by omega,by go_num⟩
         case measure=>simp [intOf];omega
       · have b5':(200:Int)<(x.2.size:Int):=by omega
         go_wp2
         go_ret
         exact T _ (zaa _ _)
     · go_wp2
       go_ret
       exact ⟨false,fun _=>⟨b1,b2,b3,b4,HS.out⟩,rfl,zaa _ _⟩
theorem zbn:(Tryz.prog.info? 9).map (fun i=>(i.zero,i.size,i.bytes))=some (some (D ⟨#[]⟩),1,16):=by kernel_rfl
def bs (l:List UInt8):ByteArray:=⟨l.toArray⟩
def zkA (i:Nat):ByteArray:=bs ([116,114,105,112]++Lib.decDigits i)
def zdu:List ByteArray:=[bs [116,114,105,112],bs [99,108,111,115,101],bs [102,97,105,108],bs [115,101,110,100],bs [116,114,97,110,115,102,101,114],bs [122,111,110,101,49],bs [122,111,110,101,50],bs [122,111,110,101,51],bs [116,105,109,101],bs [115,116,97,114,116,101,100]]
def zdb:List ByteArray:=[bs [116,114,105,112],bs [99,108,111,115,101],bs [102,97,105,108],bs [116,105,109,101],bs [115,116,97,114,116,101,100],bs [117,110,100,101,114],bs [111,118,101,114]]
def zfB:List ByteArray:=(List.range 16).map zkA
def zbE (k:Int):List ByteArray:=if k=1 then zdu else if k=2∨k=3 then zdb else if k=4 then zfB else []
theorem zbS (k:Int):(zbE k).length≤16:=by
 unfold zbE;split
 · decide
 · split
   · decide
   · split
     · simp [zfB]
     · simp
theorem zcO {w:World} {t:TypeId} (cs:List Value) (hm:cs.length≤maxLen) :
 (w.alloc (.cells cs.toArray t)).ownsRow w.heap.size t 1 (G (some ⟨w.heap.size,0,C⟩) cs.length cs.length) cs.length cs:=by
 have:=World.ownsRow_lit (base:=w.heap.size) (e:=t) (size:=1) w cs.toArray cs.length (I _) hm (by simp);simpa using this
theorem digs:∀ k:Nat,k<16→(Lib.decDigits k).length≤2:=by decide +kernel
theorem zi3 {α:Type} (f:Nat→α) (k:Nat):(List.range (k+1)).map f=(List.range k).map f++[f k]:=by
 rw [List.range_succ,List.map_append];rfl
def zcE (n:Nat):List Value:=((List.range n).map zkA).map .string
theorem zct (n:Nat):zcE (n+1)=zcE n++[D (zkA n)]:=by unfold zcE;rw [zi3,List.map_append];rfl
theorem zjO (k:Int) (w:World) :
 Calls Tryz.prog 107 #[F .i64 k] w (RetRow 9 1 (zbE k).length ((zbE k).map .string) w):=by
 by_cases h1:k=1
 · subst h1
   go_enter Tryz.func107,Tryz.ntmps107
   go_wp2
   go_ret
   exact RetRow.mk (zcO (zdu.map .string) (by decide)) (I _) (zaa _ _)
 by_cases h2:k=2
 · subst h2
   go_enter Tryz.func107,Tryz.ntmps107
   go_wp2
   go_ret
   exact RetRow.mk (zcO (zdb.map .string) (by decide)) (I _) (zaa _ _)
 by_cases h3:k=3
 · subst h3
   go_enter Tryz.func107,Tryz.ntmps107
   go_wp2
   go_ret
   exact RetRow.mk (zcO (zdb.map .string) (by decide)) (I _) (zaa _ _)
 have b1:(k == 1)=false:=by simpa using h1
 have b2:(k == 2)=false:=by simpa using h2
 have b3:(k == 3)=false:=by simpa using h3
 by_cases h4:k=4
 · subst h4
   clear h1 h2 h3 b1 b2 b3
   obtain ⟨i0,hi,hz0,hz1,hz2⟩:=info_parts zbn
   go_enter Tryz.func107,Tryz.ntmps107
   go_wp2
   go_loopw [3,15] (zbW 9 1 w.heap.size w 16 (fun k=>k) zcE) (fun _ i _=>16-(intOf i).toNat)
   case atStart=>exact ⟨0,L _,rfl,M _ _ _ _,Below.refl _ _⟩
   case round =>
    obtain ⟨k,hk,rfl,hown,hbel⟩:=hrel
    dsimp only at hown
    by_cases hlt:k<16
    · have hsz:=hbel.size
      have hdig:=digs k hlt
      have HO:=Hd hown
      clear hown
      go_wp2_with (first
       | (go_at_call 120;refine (Tryz.strconv_Itoa_small k (by omega) _).mono ?_;rintro e w' ⟨rfl,rfl⟩)
       | (at_builtin;refine zaK _ _ 22 rfl rfl Tryz.underlying22 hi hz0 hz1 hz2 rfl (by decide) rfl HO.out hbel _ rfl rfl rfl (by simp [Value.oneCell']) (by omega) (by unfold maxLen;omega) hsz ?_;intro v' w' hown' hbel' _))
      go_roundw
      case rel=>exact ⟨k+1,by omega,by go_num,by dsimp only;rw [zct];exact hown',hbel'⟩
      case measure=>simp [intOf];omega
    · go_wp2
      go_ret
      obtain rfl:k=16:=by omega
      exact RetRow.mk (n:=16) hown (I _) hbel
 · have b4:(k == 4)=false:=by simpa using h4
   have he:zbE k=[]:=by simp [zbE,h1,h2,h3,h4]
   rw [he]
   clear he
   go_enter Tryz.func107,Tryz.ntmps107
   go_wp2
   go_ret
   exact RetRow.mk (M _ w.heap.size _ _) (I _) (Below.refl _ _)
theorem zjw (m:Nat) (h:m<256) (n:Int) (hn:n=(m:Int)):n=((UInt8.ofNat m).toNat:Int):=by
 rw [hn,UInt8.toNat_ofNat'];omega
theorem zlx:∀ k:Nat,k<10→zkA k=bs [116,114,105,112,UInt8.ofNat (48+k)]:=by decide +kernel
theorem zkB:∀ k:Nat,k<6→zkA (10+k)=bs [116,114,105,112,49,UInt8.ofNat (48+k)]:=by decide +kernel
theorem zi5 (k:Int) (w:World) :
 Calls Tryz.prog 88 #[F .i64 k] w (RetRow 9 1 (zbE k).length ((zbE k).map .string) w):=by
 by_cases h1:k=1
 · subst h1
   go_enter Tryz.func88,Tryz.ntmps88
   go_wp2
   go_ret
   exact RetRow.mk (zcO (zdu.map .string) (by decide)) (I _) (zaa _ _)
 by_cases h2:k=2
 · subst h2
   go_enter Tryz.func88,Tryz.ntmps88
   go_wp2
   go_ret
   exact RetRow.mk (zcO (zdb.map .string) (by decide)) (I _) (zaa _ _)
 by_cases h3:k=3
 · subst h3
   go_enter Tryz.func88,Tryz.ntmps88
   go_wp2
   go_ret
   exact RetRow.mk (zcO (zdb.map .string) (by decide)) (I _) (zaa _ _)
 have b1:(k == 1)=false:=by simpa using h1
 have b2:(k == 2)=false:=by simpa using h2
 have b3:(k == 3)=false:=by simpa using h3
 by_cases h4:k=4
 · subst h4
   clear h1 h2 h3 b1 b2 b3
   obtain ⟨i0,hi,hz0,hz1,hz2⟩:=info_parts zbn
   go_enter Tryz.func88,Tryz.ntmps88
   go_wp2
   go_loopw [3,4] (zbW 9 1 w.heap.size w 10 (fun k=>k) zcE) (fun _ i _=>10-(intOf i).toNat)
   case atStart=>exact ⟨0,L _,rfl,M _ _ _ _,Below.refl _ _⟩
   case round =>
    obtain ⟨k,hk,rfl,hown,hbel⟩:=hrel
    dsimp only at hown
    by_cases hlt:k<10
    · have hsz:=hbel.size
      have HO:=Hd hown
      obtain ⟨c,hc,hcn⟩:∃ c:UInt8,c=UInt8.ofNat (48+k)∧(48+(k:Int))=(c.toNat:Int):=⟨_,rfl,zjw _ (by omega) _ (by omega)⟩
      have HC:=Hd hc
      have hcv:=zgq (P := Tryz.prog) 205 9 5 Tryz.underlying205 Tryz.underlying5 Tryz.underlying9 c (48+(k:Int)) hcn wr
      clear hc hcn
      clear hown
      go_wp2_with (first
       | (at_builtin;refine zaK _ _ 22 rfl rfl Tryz.underlying22 hi hz0 hz1 hz2 rfl (by decide) rfl (HO.out.alloc _) (hbel.alloc hsz _) (wr.heap.size+1) (by simp) rfl rfl (by simp [Value.oneCell']) (by omega) (by unfold maxLen;omega) (by simp;omega) ?_;intro v' w' hown' hbel' _))
      go_roundw
      case rel=>exact ⟨k+1,by omega,by go_num,by dsimp only;rw [zct,zlx k hlt,← HC.out];exact hown',hbel'⟩
      case measure=>simp [intOf];omega
    · obtain rfl:k=10:=by omega
      clear hlt hk
      go_wp2
      go_loopw [3,5] (zbW 9 1 w.heap.size w 6 (fun k=>10+k) (fun k=>zcE (10+k))) (fun _ i _=>6-(intOf i).toNat)
      case atStart=>exact ⟨0,L _,rfl,hown,hbel⟩
      case round =>
       clear hown hbel
       obtain ⟨k,hk,rfl,hown,hbel⟩:=hrel
       dsimp only at hown
       by_cases hlt:k<6
       · have hsz:=hbel.size
         have HO:=Hd hown
         obtain ⟨c,hc,hcn⟩:∃ c:UInt8,c=UInt8.ofNat (48+k)∧(48+(k:Int))=(c.toNat:Int):=⟨_,rfl,zjw _ (by omega) _ (by omega)⟩
         have HC:=Hd hc
         have hcv:=zgq (P := Tryz.prog) 205 9 5 Tryz.underlying205 Tryz.underlying5 Tryz.underlying9 c (48+(k:Int)) hcn wr
         clear hc hcn
         clear hown
         go_wp2_with (first
          | (at_builtin;refine zaK _ _ 22 rfl rfl Tryz.underlying22 hi hz0 hz1 hz2 rfl (by decide) rfl (HO.out.alloc _) (hbel.alloc hsz _) (wr.heap.size+1) (by simp) rfl rfl (by simp [Value.oneCell']) (by omega) (by unfold maxLen;omega) (by simp;omega) ?_;intro v' w' hown' hbel' _))
         go_roundw
         case rel=>exact ⟨k+1,by omega,by go_num,by dsimp only;rw [show 10+(k+1)=(10+k)+1 from rfl,zct,zkB k hlt,← HC.out];exact hown',hbel'⟩
         case measure=>simp [intOf];omega
       · obtain rfl:k=6:=by omega
         go_wp2
         go_ret
         exact RetRow.mk (n:=16) hown (I _) hbel
 · have b4:(k == 4)=false:=by simpa using h4
   have he:zbE k=[]:=by simp [zbE,h1,h2,h3,h4]
   rw [he]
   clear he
   go_enter Tryz.func88,Tryz.ntmps88
   go_wp2
   go_ret
   exact RetRow.mk (M _ w.heap.size _ _) (I _) (Below.refl _ _)
end Go.Proofs.YtjkimieapfbhbaaGreatDoor
