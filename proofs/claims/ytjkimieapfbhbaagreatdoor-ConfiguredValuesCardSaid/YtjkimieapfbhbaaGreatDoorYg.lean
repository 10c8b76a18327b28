/-
 The statement of a bay.
-/
import Derived.Test.YtjkimieapfbhbaaGreatDoorKYi
import Derived.Deep.DeepCutAuto
import Derived.Deep.CutRange
set_option maxRecDepth 100000
set_option maxHeartbeats 32000000
open Go.Value renaming int → d, slice → D, string → E, bool → F
open Go.IntKind renaming i64 → l
open Option renaming none → C
open Go.Obj renaming cells → G
open Go.Proofs.YtjkimieapfbhbaaGreatDoor.Wt renaming lit → I, ok → Y
open Go.Proofs.YtjkimieapfbhbaaGreatDoor.Row renaming cell → J, new → V
open Go.World renaming cell?_of_block → K, size_setCell → Z
open List renaming not_mem_nil → M, mem_cons → O, mem_of_getElem? → X
open Nat renaming le_refl → U, lt_of_lt_of_le → ja
namespace Go.Proofs.YtjkimieapfbhbaaGreatDoor
open Go.RowKit
structure Bay0 (H base g:Nat) (w W0 wr:World) (A1:Option Addr) (n c1:Nat) (ws:List (ByteArray × Bool)):Prop where
 row:Row wr g 211 [d l 0,D A1 n c1,F false,D C 0 0]
 wn:ws.length=n
 w1:1≤n∧n≤60
 wc:n≤c1∧c1≤maxLen
 wd:Rw WdC 2 wr (fun b=>base≤b∧b<wr.heap.size) A1 n ws
 keep:∀ b,b<base→b≠g→wr.heap[b]? = W0.heap[b]?
 bel:Below H w wr
 lo:base≤wr.heap.size
def Bay0R (H base g:Nat) (w W0 wr:World):Prop:=∃ A1 n c1 ws,Bay0 H base g w W0 wr A1 n c1 ws
structure BayS (H base g:Nat) (w W0 wr:World) (A1:Option Addr) (n c1:Nat) (v:Value) (its:List (List Value)) (ws:List (ByteArray × Bool)):Prop where
 row:Row wr g 211 (boxC (D A1 n c1) v)
 gr:Grows 1 (fun b=>b=g) base wr v its
 wn:ws.length=n
 w1:1≤n∧n≤60
 wc:n≤c1∧c1≤maxLen
 wd:Rw WdC 2 wr (Fin base wr v (fun b=>b=g)) A1 n ws
 keep:∀ b,b<base→b≠g→wr.heap[b]? = W0.heap[b]?
 bel:Below H w wr
 hg:H≤g∧g<base
def zkN (N H base g:Nat) (w W0 wr:World):Prop:=∃ A1 n c1 v its ws,BayS H base g w W0 wr A1 n c1 v its ws∧its.length≤N
theorem BayS.below {H base g n c1:Nat} {w W0 wr w':World} {A1:Option Addr} {v:Value} {its:List (List Value)} {ws:List (ByteArray × Bool)} (h:BayS H base g w W0 wr A1 n c1 v its ws) (hb:Below wr.heap.size wr w'):BayS H base g w W0 w' A1 n c1 v its ws:=by
 have hlo:=h.gr.lo;have hs:=hb.size;have hgl:=h.row.lt;refine ⟨h.row.below hb hgl,h.gr.below hb (U _),h.wn,h.w1,h.wc,?_,fun b h1 h2=>(hb.block b (by omega)).trans (h.keep b h1 h2),?_,h.hg⟩
 · exact h.wd.mono WdC.mono (fun b q=>⟨q.1,ja q.2.1 hs,q.2.2⟩) fun b q=>hb.block b q.2.1
 · exact h.bel.trans (hb.mono (by have:=h.bel.size;have:=h.hg;omega))
theorem BayS.add {H base g n c1:Nat} {w W0 wr w':World} {e:Ending} {A1:Option Addr} {v:Value} {its:List (List Value)} {ws:List (ByteArray × Bool)} (h:BayS H base g w W0 wr A1 n c1 v its ws) (hr:zfr 1 (fun b=>b=g) base g (D A1 n c1) v its wr e w') :
 e = .returned (.tuple #[])∧∃ v' cs,BayS H base g w W0 w' A1 n c1 v' (its++[cs]) ws:=by
 obtain ⟨he,v',cs,h1,h2,h3,h4⟩:=hr;have hlo:=h.gr.lo;have hgb:=h.hg;have hown:∀ b,v.ownBlock=some b→base≤b:=fun b q=>(h.gr.own.lt b q).1
 refine ⟨he,v',cs,h1,h2,h.wn,h.w1,h.wc,?_,fun b hb hne => ?_,?_,h.hg⟩
 · refine h.wd.mono WdC.mono (fun b q=>⟨q.1,ja q.2.1 h3.size,fun z => ?_,q.2.2.2⟩) (h3.keep fun b q=>⟨q.2.1,fun z=>z.elim q.2.2.2 q.2.2.1⟩)
   rcases h4 b z with z | z
   · exact q.2.2.1 z
   · have:=q.2.1
     omega
 · exact (h3.block b (by omega) (fun z=>z.elim hne (fun z=>by have:=hown b z;omega))).trans (h.keep b hb hne)
 · refine h.bel.trans (h3.below (by have:=h.bel.size;omega) fun b z => ?_)
   rcases z with z | z
   · rw [z];exact hgb.1
   · have:=hown b z;omega
theorem zby (w:World) (cs:List Value) (t:TypeId) (size n:Nat) (hn:cs.length=n*size) (hm:n≤maxLen):(w.alloc (G cs.toArray t)).ownsRow w.heap.size t size (D (some ⟨w.heap.size,0,C⟩) n n) n cs:=by
 refine ⟨hn,.inr ⟨w.heap.size,n,cs.toArray,rfl,U _,heap_alloc_new _ _,U _,hm,by simpa using hn,?_⟩⟩
 rw [List.take_of_length_le (by simp;omega)]
theorem zeg {W:World} {base n c:Nat} {A:Option Addr} {xs:List ByteArray} (h:W.ownsRow base 9 1 (D A n c) n (xs.map E)) (hn:xs.length=n) (hw:∀ s∈xs,Wt s) (hl:n≤40) :
 ∀ W',W'.heap=W.heap→Calls Tryz.prog 118 #[D A n c] W' (zd1 W.heap.size n n W'):=by
 intro W' hW;subst hn
 have hr:Rw WtC 1 W' (fun b=>base≤b∧b<W.heap.size) A xs.length xs:=by
  have h0:Rw WtC 1 W (fun b=>base≤b∧b<W.heap.size) A xs.length xs:=Rw.of_own (f:=fun s=>[E s]) (base:=base) (e := 9) (c:=c) (by simpa [List.map_eq_flatMap] using h) rfl (fun _ _=>rfl) (fun x hx=>⟨rfl,hw x hx⟩) (fun b h1 h2=>⟨h1,h2⟩);exact h0.mono WtC.mono (fun _ q=>q) (fun b _=>by rw [hW])
 have:=zfY (fun b=>base≤b∧b<W.heap.size) A c xs W' hr hl (fun b hb=>by rw [hW];exact hb.2);rw [hW] at this;simpa using this
theorem zdC {w:World} {base n size:Nat} {e:TypeId} {v:Value} {xs:List Value} (h:w.ownsRow base e size v n xs):w.drew.ownsRow base e size v n xs:=zab h ((Below.refl _ w).drew) (U _)
theorem stmtLD (xs:List ByteArray) (n:Nat) (cells:Array Value) (w:World) (hc:cells=(xs.map E).toArray) (hn:xs.length=n) (hl:n≤40) (hw:∀ s∈xs,Wt s) :
 Calls Tryz.prog 118 #[D (some ⟨w.heap.size,0,C⟩) n n] (w.alloc (G cells 9)).drew (zd1 (w.heap.size+1) n n (w.alloc (G cells 9)).drew):=by
 subst hc;subst hn;have:=zfY (fun b=>b=w.heap.size) (some ⟨w.heap.size,0,C⟩) xs.length xs (w.alloc (G (xs.map E).toArray 9)).drew ((zj3 w xs hw).mono WtC.mono (fun _ q=>q) (fun _ _=>rfl)) hl (fun b hb=>by subst hb;show w.heap.size<(w.alloc _).heap.size;simp);have h2:(w.alloc (G (xs.map E).toArray 9)).drew.heap.size=w.heap.size+1:=by show (w.alloc _).heap.size=_;simp
 rw [h2] at this;simpa using this
theorem zhi {w W0 w7:World} {A1:Option Addr} {c1 m base:Nat} {ws:List (ByteArray × Bool)} (hlen:m≤ws.length∧ws.length≤m) (hm:1≤m∧m≤60) (hcc:ws.length≤c1∧c1≤maxLen) (ho:w7.ownsRow base 217 2 (D A1 ws.length c1) ws.length (ws.flatMap wdC)) (hbs:w.heap.size+4≤base) (hw:∀ x∈ws,Wt x.1)
 (hb:Below w.heap.size w W0) (hsz:W0.heap.size=w.heap.size+4) (hb7:Below W0.heap.size W0 w7) (R:Row W0 (w.heap.size+1+1+1) 211 itZ) :
 Bay0 w.heap.size (w.heap.size+4) (w.heap.size+1+1+1) w W0 (sets (w.heap.size+1+1+1) w7 [(0,d l 0),(1,D A1 ws.length c1),(2,F false),(3,D C 0 0)]) A1 ws.length c1 ws:=by
 have hs7:=hb7.size;have hR7:=R.below hb7 R.lt;have hown:=zat (w:=w7) (w':=sets (w.heap.size+1+1+1) w7 [(0,d l 0),(1,D A1 ws.length c1),(2,F false),(3,D C 0 0)]) ho fun b hb'=>zaf _ _ _ b (by have:=(ho.lt b hb').1;omega)
 have hs:(sets (w.heap.size+1+1+1) w7 [(0,d l 0),(1,D A1 ws.length c1),(2,F false),(3,D C 0 0)]).heap.size=w7.heap.size:=zbw _ _ _;refine ⟨hR7.sets [(0,d l 0),(1,D A1 ws.length c1),(2,F false),(3,D C 0 0)],rfl,by omega,hcc,zmD hown rfl hw fun b h1 h2=>⟨by omega,h2⟩,fun b h1 h2 => ?_,?_,by omega⟩
 · exact (zaf _ _ w7 b h2).trans (hb7.block b (by omega))
 · exact zak (g:=w.heap.size+1+1+1) (by omega) [(0,d l 0),(1,D A1 ws.length c1),(2,F false),(3,D C 0 0)] w7 (Below.then hb hb7)
theorem zl6 {w W0 wr:World} {H base g n c1 c9:Nat} {A1 A9:Option Addr} {its:List (List Value)} {ws:List (ByteArray × Bool)} (h:BayS H base g w W0 wr A1 n c1 (D A9 its.length c9) its ws) (hl:its.length≤7) (hc:its.length≤c9) (hm:c9≤maxLen) {r:Nat} (hr:H≤r∧r<base) (hH:w.heap.size=H) :
 zjl 2 w (.returned (.agg #[d l 0,D A1 n c1,F true,D A9 its.length c9])) (sets r wr [(0,d l 0),(1,D A1 n c1),(2,F true),(3,D A9 its.length c9)]):=by
 subst hH;have hs:(sets r wr [(0,d l 0),(1,D A1 n c1),(2,F true),(3,D A9 its.length c9)]).heap.size=wr.heap.size:=zbw _ _ _;have hk:KeepOn (fun b=>base≤b∧b<wr.heap.size) wr (sets r wr [(0,d l 0),(1,D A1 n c1),(2,F true),(3,D A9 its.length c9)]):=fun b hb=>zaf _ _ _ b (by have:=hb.1;omega)
 have hlo:=h.hg;refine ⟨[d l 0,D A1 n c1,F true,D A9 its.length c9],rfl,?_,zak hr.1 [(0,d l 0),(1,D A1 n c1),(2,F true),(3,D A9 its.length c9)] wr h.bel⟩
 have hwn:=h.wn;subst hwn;refine ⟨A1,c1,true,A9,its.length,c9,ws,rfl,h.w1,h.wc,?_,⟨hc,hm,by omega⟩,?_⟩
 · exact (h.wd.mono WdC.mono (S':=fun b=>base≤b∧b<wr.heap.size) (fun b q=>⟨q.1,q.2.1⟩) (KeepOn.refl _ _)).mono WdC.mono (fun b q=>⟨by omega,by rw [hs];exact q.2⟩) hk
 · exact (h.gr.rw rfl (S:=fun b=>base≤b∧b<wr.heap.size) (fun b h1 h2 _=>⟨h1,h2⟩)).mono (ItC.mono 1) (fun b q=>⟨by omega,by rw [hs];exact q.2⟩) hk
theorem Bay0.block {w W0 wr:World} {H base g n c1:Nat} {A1:Option Addr} {ws:List (ByteArray × Bool)} (h:Bay0 H base g w W0 wr A1 n c1 ws) (hg:H≤g∧g<base):BayS H base g w W0 (wr.setCell ⟨g,2,C⟩ (F true)) A1 n c1 (D C 0 0) [] ws:=by
 refine ⟨h.row.set (i:=2) (v := F true),Grows.nil (fun b hb=>by rw [hb,Z];exact h.row.lt) (by rw [Z];exact h.lo),h.wn,h.w1,h.wc,?_,fun b h1 h2=>(heap_setCell_other _ ⟨g,2,C⟩ b _ h2).trans (h.keep b h1 h2),h.bel.setCell (p:=⟨g,2,C⟩) hg.1 _,hg⟩
 exact h.wd.mono WdC.mono (fun b q=>⟨q.1,by rw [Z];exact q.2,by simp [Value.ownBlock],by omega⟩) fun b q=>heap_setCell_other _ ⟨g,2,C⟩ b _ (fun z=>by have z':b=g:=z;have:=q.1;omega)
def LnkR (L H base g:Nat) (w W0:World) (i:Value) (wr:World):Prop:=∃ k:Nat,k≤L∧i = d l (k:Int)∧zkN (4+k) H base g w W0 wr
theorem at_block {P:Program} {n:Nat} {c:Code} {Q:Exit→Act→World→Prop} {a:Act} {w:World} (h:(Code.block n c).wp P Q a w):(Code.block n c).wp P Q a w:=h
theorem zbF {S:StatM} (h:StF S) {s:ByteArray} (hs:s∈S.names):NameOk s:=by
 obtain ⟨k,hk⟩:=List.getElem?_of_mem hs;exact (h.names k s hk).1
theorem zgt (B i:Nat) (p:StAt) (S:StatM) (x:BayM) (A:Option Addr) (c:Nat) (w:World) (hB:B≤w.heap.size) (T:Tab w) (hS:StC w B p S) (hF:StF S) (hx:S.bays[i]? = some x) (hl:Rws LinkC 2 w B A x.links.length x.links) :
 Calls Tryz.prog 121 #[.agg #[E S.name,D p.A1 S.buses.length p.c1,D p.A2 S.lines.length p.c2,D p.A3 S.sources.length p.c3,D p.A4 S.bays.length p.c4],.agg #[E x.name,d l x.kind,d l x.ofi,d l x.en,d l x.zr,d l x.zx,D A x.links.length c,F x.closed,d l x.ct,d l x.vt,d l x.sat,d l x.travel]] w (zjl 2 w):=by
 have hbx:=hF.bays i x hx;have hxm:x∈S.bays:=X hx;have hnx:Wt x.name:=Y (zbF hF (by simp only [StatM.names,List.mem_append,List.mem_map];exact .inr (.inr (.inr ⟨x,hxm,rfl⟩))));obtain ⟨i0,hi,hz0,hz1,hz2⟩:=info_parts zbn;have HTI:=Hd (And.intro hi (And.intro hz0 (And.intro hz1 hz2)));clear hi hz0 hz1 hz2;have HOBJ:=Hd hbx.obj;have HRG:=Hd hbx.range;have HLK:=Hd hbx.links;have HF:=Hd hF;have HS:=Hd hS;have HL:=Hd hl;have HT:=Hd T;have HNX:=Hd hnx;have hb:Below w.heap.size w ((((w.alloc (G #[E S.name,D p.A1 S.buses.length p.c1,D p.A2 S.lines.length p.c2,D p.A3 S.sources.length p.c3,D p.A4 S.bays.length p.c4] 27)).alloc (G #[E x.name,d l x.kind,d l x.ofi,d l x.en,d l x.zr,d l x.zx,D A x.links.length c,F x.closed,d l x.ct,d l x.vt,d l x.sat,d l x.travel] 113)).alloc (G #[d l 0,D C 0 0,F false,D C 0 0] 211)).alloc (G #[d l 0,D C 0 0,F false,D C 0 0] 211)):=(((zaa w _).alloc (by simp) _).alloc (by simp <;> omega) _).alloc (by simp <;> omega) _;have R0:Row ((((w.alloc (G #[E S.name,D p.A1 S.buses.length p.c1,D p.A2 S.lines.length p.c2,D p.A3 S.sources.length p.c3,D p.A4 S.bays.length p.c4] 27)).alloc (G #[E x.name,d l x.kind,d l x.ofi,d l x.en,d l x.zr,d l x.zx,D A x.links.length c,F x.closed,d l x.ct,d l x.vt,d l x.sat,d l x.travel] 113)).alloc (G #[d l 0,D C 0 0,F false,D C 0 0] 211)).alloc (G #[d l 0,D C 0 0,F false,D C 0 0] 211)) w.heap.size 27 [E S.name,D p.A1 S.buses.length p.c1,D p.A2 S.lines.length p.c2,D p.A3 S.sources.length p.c3,D p.A4 S.bays.length p.c4]:=(V w.heap.size [E S.name,D p.A1 S.buses.length p.c1,D p.A2 S.lines.length p.c2,D p.A3 S.sources.length p.c3,D p.A4 S.bays.length p.c4] rfl).below ((((Below.refl _ _).alloc (U _) _).alloc (by simp <;> omega) _).alloc (by simp <;> omega) _) (by simp)
 have R1:Row ((((w.alloc (G #[E S.name,D p.A1 S.buses.length p.c1,D p.A2 S.lines.length p.c2,D p.A3 S.sources.length p.c3,D p.A4 S.bays.length p.c4] 27)).alloc (G #[E x.name,d l x.kind,d l x.ofi,d l x.en,d l x.zr,d l x.zx,D A x.links.length c,F x.closed,d l x.ct,d l x.vt,d l x.sat,d l x.travel] 113)).alloc (G #[d l 0,D C 0 0,F false,D C 0 0] 211)).alloc (G #[d l 0,D C 0 0,F false,D C 0 0] 211)) (w.heap.size+1) 113 [E x.name,d l x.kind,d l x.ofi,d l x.en,d l x.zr,d l x.zx,D A x.links.length c,F x.closed,d l x.ct,d l x.vt,d l x.sat,d l x.travel]:=(V (w.heap.size+1) [E x.name,d l x.kind,d l x.ofi,d l x.en,d l x.zr,d l x.zx,D A x.links.length c,F x.closed,d l x.ct,d l x.vt,d l x.sat,d l x.travel] (by simp)).below (((Below.refl _ _).alloc (U _) _).alloc (by simp <;> omega) _) (by simp);have R2:Row ((((w.alloc (G #[E S.name,D p.A1 S.buses.length p.c1,D p.A2 S.lines.length p.c2,D p.A3 S.sources.length p.c3,D p.A4 S.bays.length p.c4] 27)).alloc (G #[E x.name,d l x.kind,d l x.ofi,d l x.en,d l x.zr,d l x.zx,D A x.links.length c,F x.closed,d l x.ct,d l x.vt,d l x.sat,d l x.travel] 113)).alloc (G #[d l 0,D C 0 0,F false,D C 0 0] 211)).alloc (G #[d l 0,D C 0 0,F false,D C 0 0] 211)) (w.heap.size+1+1) 211 itZ:=(V (w.heap.size+1+1) itZ (by simp)).below (zaa _ _) (by simp);have R3:Row ((((w.alloc (G #[E S.name,D p.A1 S.buses.length p.c1,D p.A2 S.lines.length p.c2,D p.A3 S.sources.length p.c3,D p.A4 S.bays.length p.c4] 27)).alloc (G #[E x.name,d l x.kind,d l x.ofi,d l x.en,d l x.zr,d l x.zx,D A x.links.length c,F x.closed,d l x.ct,d l x.vt,d l x.sat,d l x.travel] 113)).alloc (G #[d l 0,D C 0 0,F false,D C 0 0] 211)).alloc (G #[d l 0,D C 0 0,F false,D C 0 0] 211)) (w.heap.size+1+1+1) 211 itZ:=V _ itZ (by simp)
 have hsz:(((((w.alloc (G #[E S.name,D p.A1 S.buses.length p.c1,D p.A2 S.lines.length p.c2,D p.A3 S.sources.length p.c3,D p.A4 S.bays.length p.c4] 27)).alloc (G #[E x.name,d l x.kind,d l x.ofi,d l x.en,d l x.zr,d l x.zx,D A x.links.length c,F x.closed,d l x.ct,d l x.vt,d l x.sat,d l x.travel] 113)).alloc (G #[d l 0,D C 0 0,F false,D C 0 0] 211)).alloc (G #[d l 0,D C 0 0,F false,D C 0 0] 211))).heap.size=w.heap.size+4:=by simp
 have H0:=Hd R0;have H1:=Hd R1;have H2:=Hd R2;have H3:=Hd R3;have q1:=J (k:=1) (v := d l x.kind) R1 rfl;have HB:=Hd hb;have HSZ:=Hd hsz;clear hF hS hl T hnx hb R0 R1 R2 R3 hsz hbx hxm;go_enter Tryz.func121,Tryz.ntmps121;go_upto_region 2 with fail
 generalize ((((w.alloc (G #[E S.name,D p.A1 S.buses.length p.c1,D p.A2 S.lines.length p.c2,D p.A3 S.sources.length p.c3,D p.A4 S.bays.length p.c4] 27)).alloc (G #[E x.name,d l x.kind,d l x.ofi,d l x.en,d l x.zr,d l x.zx,D A x.links.length c,F x.closed,d l x.ct,d l x.vt,d l x.sat,d l x.travel] 113)).alloc (G #[d l 0,D C 0 0,F false,D C 0 0] 211)).alloc (G #[d l 0,D C 0 0,F false,D C 0 0] 211))=W0 at *;have HQ1:=Hd q1
 iterate 10 (first | go_step | go_upon | go_values | go_guarded | go_skip)
 go_cut [] from 10 to 49 (fun wr=>Bay0R w.heap.size (w.heap.size+4) (w.heap.size+1+1+1) w W0 wr)
 case first =>
  have q0:=J (k:=0) (v := E x.name) H1.out rfl;have l0:=H0.out.lt;have l1:=H1.out.lt;have l3:=H3.out.lt;clear q1
  rcases HOBJ.out with ⟨hk,ho1,ho2⟩ | ⟨hk,ho1,ho2⟩ | ⟨hk,ho1⟩
  · obtain ⟨j,hj⟩:∃ j:Nat,x.ofi=(j:Int):=⟨x.ofi.toNat,by omega⟩
    have q2:=J (k:=2) (v := d l x.ofi) H1.out rfl
    rw [hj] at q2 ho1 ho2
    have hjl:j<S.lines.length:=by omega
    obtain ⟨b,o,cs,y,hA,hbB,hy,-,⟨rfl,hyn⟩,hat⟩:=HS.out.lines.at_ hjl
    have hyw:Wt y.name:=Y (zbF HF.out (by simp only [StatM.names,List.mem_append,List.mem_map];exact .inr (.inl ⟨y,X hy,rfl⟩)))
    have c2:=J (k:=2) (v := D p.A2 S.lines.length p.c2) H0.out rfl
    rw [hA] at c2
    have hbw:b<w.heap.size:=by omega
    have hbW:b<W0.heap.size:=by have:=HB.out.size;omega
    have n0:W0.cell? ⟨b,o+j*5,C⟩=some (E y.name):=(HB.out.cell (p:=⟨b,o+j*5,C⟩) hbw).trans (by simpa using hat 0 _ rfl)
    have q3:=J (k:=3) (v := d l x.en) H1.out rfl
    have en64:I64 x.en:=by obtain ⟨⟨h1,h2⟩,-⟩:=HRG.out;unfold I64;omega
    have HY:=Hd hyw
    have HC1:=Hd (fun W (TW:Tab W)=>zcg x.en en64 W TW)
    have HT0:=Hd (HT.out.below HB.out HT.out.2)
    obtain ⟨u0,u1,u2,u3⟩:=kr4 H3.out;obtain ⟨uf0,uf1,uf2,uf3⟩:=kq4 H3.out
    have dk1:(x.kind == 1)=true:=by rw [hk];rfl
    clear hk hj hyw hy hat en64 hA
    go_upto_region 5 with fail
    have hne1:b≠W0.heap.size:=Nat.ne_of_lt hbW
    have hne2:w.heap.size≠W0.heap.size:=Nat.ne_of_lt l0
    have hne3:w.heap.size+1≠W0.heap.size:=Nat.ne_of_lt l1
    have hne1':=hne1.symm
    have hne2':=hne2.symm
    have hne3':=hne3.symm
    go_region_held3 (fun w'=>w'.cell? ⟨w.heap.size+1,0,C⟩=some (E x.name)∧w'.cell? ⟨w.heap.size+1,2,C⟩=some (d l (j:Int))∧w'.cell? ⟨w.heap.size+1,3,C⟩=some (d l x.en)∧w'.cell? ⟨w.heap.size,2,C⟩=some (D (some ⟨b,o,C⟩) S.lines.length p.c2)∧w'.cell? ⟨b,o+j*5,C⟩=some (E y.name)) (first | go_keep) (first
     | ((go_at_call 120;(with_reducible refine (HC1.out _ (HT0.out.drew)).mono ?_);rintro e w6 ⟨s6,rfl,hw6,hb6⟩;have HW6:=Hd hw6;have HB6:=Hd (show Below W0.heap.size W0 w6 from (Below.refl _ W0).drew.trans hb6);
         obtain ⟨q0',q2',q3'⟩:=kb3 hb6 l1 ⟨q0,q2,q3⟩;have c2':=(hb6.cell (p:=⟨w.heap.size,2,C⟩) l0).trans c2;have n0':=(hb6.cell (p:=⟨b,o+j*5,C⟩) hbW).trans n0;
         have HSL:=Hd (zmw [⟨#[98,97,121]⟩,x.name,⟨#[108,105,110,101]⟩,y.name,s6] 5 #[.string ⟨#[98,97,121]⟩,.string x.name,.string ⟨#[108,105,110,101]⟩,.string y.name,.string s6] w6 rfl rfl (by decide) (by intro s hs;simp only [O,M,or_false] at hs;rcases hs with rfl | rfl | rfl | rfl | rfl;exact I rfl;exact HNX.out;exact I rfl;exact HY.out;exact HW6.out));clear hw6 hb6))
     | ((go_at_call 118;(with_reducible refine HSL.out.mono ?_);rintro e w7 ⟨A1,c1,ws,rfl,hlen,hcc,ho7,hw7,hb7⟩;have HB7:=Hd (HB6.out.trans (((zaa w6 _).trans (hb7.mono (Nat.le_succ _))).mono HB6.out.size));
         have q0'':=(HB7.out.cell (p:=⟨w.heap.size+1,0,C⟩) l1).trans q0;have q2'':=(HB7.out.cell (p:=⟨w.heap.size+1,2,C⟩) l1).trans q2;have q3'':=(HB7.out.cell (p:=⟨w.heap.size+1,3,C⟩) l1).trans q3;have c2'':=(HB7.out.cell (p:=⟨w.heap.size,2,C⟩) l0).trans c2;have n0'':=(HB7.out.cell (p:=⟨b,o+j*5,C⟩) hbW).trans n0;
         have q0_s:=(show (((((w7.setCell ⟨w.heap.size+1+1+1,0,C⟩ (d l 0)).setCell ⟨w.heap.size+1+1+1,1,C⟩ (D A1 ws.length c1)).setCell ⟨w.heap.size+1+1+1,2,C⟩ (F false)).setCell ⟨w.heap.size+1+1+1,3,C⟩ (D C 0 0))).cell? ⟨w.heap.size+1,0,C⟩=some (E x.name) from (K (a:=⟨w.heap.size+1,0,C⟩) (zaf (w.heap.size+1+1+1) [(0,d l 0),(1,D A1 ws.length c1),(2,F false),(3,D C 0 0)] w7 (w.heap.size+1) (by omega))).trans q0'');have q2_s:=(show (((((w7.setCell ⟨w.heap.size+1+1+1,0,C⟩ (d l 0)).setCell ⟨w.heap.size+1+1+1,1,C⟩ (D A1 ws.length c1)).setCell ⟨w.heap.size+1+1+1,2,C⟩ (F false)).setCell ⟨w.heap.size+1+1+1,3,C⟩ (D C 0 0))).cell? ⟨w.heap.size+1,2,C⟩=some (d l (j:Int)) from (K (a:=⟨w.heap.size+1,2,C⟩) (zaf (w.heap.size+1+1+1) [(0,d l 0),(1,D A1 ws.length c1),(2,F false),(3,D C 0 0)] w7 (w.heap.size+1) (by omega))).trans q2'');have q3_s:=(show (((((w7.setCell ⟨w.heap.size+1+1+1,0,C⟩ (d l 0)).setCell ⟨w.heap.size+1+1+1,1,C⟩ (D A1 ws.length c1)).setCell ⟨w.heap.size+1+1+1,2,C⟩ (F false)).setCell ⟨w.heap.size+1+1+1,3,C⟩ (D C 0 0))).cell? ⟨w.heap.size+1,3,C⟩=some (d l x.en) from (K (a:=⟨w.heap.size+1,3,C⟩) (zaf (w.heap.size+1+1+1) [(0,d l 0),(1,D A1 ws.length c1),(2,F false),(3,D C 0 0)] w7 (w.heap.size+1) (by omega))).trans q3'');have c2_s:=(show (((((w7.setCell ⟨w.heap.size+1+1+1,0,C⟩ (d l 0)).setCell ⟨w.heap.size+1+1+1,1,C⟩ (D A1 ws.length c1)).setCell ⟨w.heap.size+1+1+1,2,C⟩ (F false)).setCell ⟨w.heap.size+1+1+1,3,C⟩ (D C 0 0))).cell? ⟨w.heap.size,2,C⟩=some (D (some ⟨b,o,C⟩) S.lines.length p.c2) from (K (a:=⟨w.heap.size,2,C⟩) (zaf (w.heap.size+1+1+1) [(0,d l 0),(1,D A1 ws.length c1),(2,F false),(3,D C 0 0)] w7 (w.heap.size) (by omega))).trans c2'');have n0_s:=(show (((((w7.setCell ⟨w.heap.size+1+1+1,0,C⟩ (d l 0)).setCell ⟨w.heap.size+1+1+1,1,C⟩ (D A1 ws.length c1)).setCell ⟨w.heap.size+1+1+1,2,C⟩ (F false)).setCell ⟨w.heap.size+1+1+1,3,C⟩ (D C 0 0))).cell? ⟨b,o+j*5,C⟩=some (E y.name) from (K (a:=⟨b,o+j*5,C⟩) (zaf (w.heap.size+1+1+1) [(0,d l 0),(1,D A1 ws.length c1),(2,F false),(3,D C 0 0)] w7 (b) (by omega))).trans n0'');
         obtain ⟨v0,v1,v2,v3⟩:=kb4 HB7.out l3 ⟨u0,u1,u2,u3⟩;
         obtain ⟨vf0,vf1,vf2,vf3⟩:=kf4 HB7.out l3 ⟨uf0,uf1,uf2,uf3⟩;
         have HO7:=Hd (zao ho7 (Nat.le_trans HB6.out.size (Nat.le_succ _)));have HW7:=Hd hw7;have HLN:=Hd hlen;clear ho7 hw7 hb7 hlen)))
    all_goals
     go_wp2
     go_meet
     exact ⟨A1,_,c1,ws,zhi HLN.out (by omega) hcc HO7.out (Nat.le_of_eq HSZ.out.symm) HW7.out HB.out HSZ.out HB7.out H3.out⟩
  · obtain ⟨j,hj⟩:∃ j:Nat,x.ofi=(j:Int):=⟨x.ofi.toNat,by omega⟩
    have q2:=J (k:=2) (v := d l x.ofi) H1.out rfl
    rw [hj] at q2 ho1 ho2
    have hjl:j<S.sources.length:=by omega
    obtain ⟨b,o,cs,y,hA,hbB,hy,-,⟨rfl,hyn⟩,hat⟩:=HS.out.sources.at_ hjl
    have hyw:Wt y.name:=Y (zbF HF.out (by simp only [StatM.names,List.mem_append,List.mem_map];exact .inr (.inr (.inl ⟨y,X hy,rfl⟩))))
    have c2:=J (k:=3) (v := D p.A3 S.sources.length p.c3) H0.out rfl
    rw [hA] at c2
    have hbw:b<w.heap.size:=by omega
    have hbW:b<W0.heap.size:=by have:=HB.out.size;omega
    have n0:W0.cell? ⟨b,o+j*6,C⟩=some (E y.name):=(HB.out.cell (p:=⟨b,o+j*6,C⟩) hbw).trans (by simpa using hat 0 _ rfl)
    have q3:=J (k:=3) (v := d l x.en) H1.out rfl
    have en64:I64 x.en:=by obtain ⟨⟨h1,h2⟩,-⟩:=HRG.out;unfold I64;omega
    have HY:=Hd hyw
    have HC1:=Hd (fun W (TW:Tab W)=>zcg x.en en64 W TW)
    have HT0:=Hd (HT.out.below HB.out HT.out.2)
    obtain ⟨u0,u1,u2,u3⟩:=kr4 H3.out;obtain ⟨uf0,uf1,uf2,uf3⟩:=kq4 H3.out
    have dk1:(x.kind == 1)=false:=by rw [hk];rfl
    have dk2:(x.kind == 2)=true:=by rw [hk];rfl
    clear hk hj hyw hy hat en64 hA
    go_upto_region 7 with fail
    have hne1:b≠W0.heap.size:=Nat.ne_of_lt hbW
    have hne2:w.heap.size≠W0.heap.size:=Nat.ne_of_lt l0
    have hne3:w.heap.size+1≠W0.heap.size:=Nat.ne_of_lt l1
    have hne1':=hne1.symm
    have hne2':=hne2.symm
    have hne3':=hne3.symm
    have HSL:=Hd (stmtLD [⟨#[98,97,121]⟩,x.name,⟨#[115,111,117,114,99,101]⟩,y.name] 4 #[.string ⟨#[98,97,121]⟩,.string x.name,.string ⟨#[115,111,117,114,99,101]⟩,.string y.name] W0 rfl rfl (by decide) (by intro s hs;simp only [O,M,or_false] at hs;rcases hs with rfl | rfl | rfl | rfl;exact I rfl;exact HNX.out;exact I rfl;exact HY.out))
    go_region_held3 (fun w'=>w'.cell? ⟨w.heap.size+1,0,C⟩=some (E x.name)∧w'.cell? ⟨w.heap.size+1,2,C⟩=some (d l (j:Int))∧w'.cell? ⟨w.heap.size+1,3,C⟩=some (d l x.en)∧w'.cell? ⟨w.heap.size,3,C⟩=some (D (some ⟨b,o,C⟩) S.sources.length p.c3)∧w'.cell? ⟨b,o+j*6,C⟩=some (E y.name)) (first | go_keep) (first
     | ((go_at_call 118;(with_reducible refine HSL.out.mono ?_);rintro e w7 ⟨A1,c1,ws,rfl,hlen,hcc,ho7,hw7,hb7⟩;have HB7:=Hd ((zaa W0 _).drew.trans (hb7.mono (Nat.le_succ _)));
         have q0'':=(HB7.out.cell (p:=⟨w.heap.size+1,0,C⟩) l1).trans q0;have q2'':=(HB7.out.cell (p:=⟨w.heap.size+1,2,C⟩) l1).trans q2;have q3'':=(HB7.out.cell (p:=⟨w.heap.size+1,3,C⟩) l1).trans q3;have c2'':=(HB7.out.cell (p:=⟨w.heap.size,3,C⟩) l0).trans c2;have n0'':=(HB7.out.cell (p:=⟨b,o+j*6,C⟩) hbW).trans n0;
         have q0_s:=(show (((((w7.setCell ⟨w.heap.size+1+1+1,0,C⟩ (d l 0)).setCell ⟨w.heap.size+1+1+1,1,C⟩ (D A1 ws.length c1)).setCell ⟨w.heap.size+1+1+1,2,C⟩ (F false)).setCell ⟨w.heap.size+1+1+1,3,C⟩ (D C 0 0))).cell? ⟨w.heap.size+1,0,C⟩=some (E x.name) from (K (a:=⟨w.heap.size+1,0,C⟩) (zaf (w.heap.size+1+1+1) [(0,d l 0),(1,D A1 ws.length c1),(2,F false),(3,D C 0 0)] w7 (w.heap.size+1) (by omega))).trans q0'');have q2_s:=(show (((((w7.setCell ⟨w.heap.size+1+1+1,0,C⟩ (d l 0)).setCell ⟨w.heap.size+1+1+1,1,C⟩ (D A1 ws.length c1)).setCell ⟨w.heap.size+1+1+1,2,C⟩ (F false)).setCell ⟨w.heap.size+1+1+1,3,C⟩ (D C 0 0))).cell? ⟨w.heap.size+1,2,C⟩=some (d l (j:Int)) from (K (a:=⟨w.heap.size+1,2,C⟩) (zaf (w.heap.size+1+1+1) [(0,d l 0),(1,D A1 ws.length c1),(2,F false),(3,D C 0 0)] w7 (w.heap.size+1) (by omega))).trans q2'');have q3_s:=(show (((((w7.setCell ⟨w.heap.size+1+1+1,0,C⟩ (d l 0)).setCell ⟨w.heap.size+1+1+1,1,C⟩ (D A1 ws.length c1)).setCell ⟨w.heap.size+1+1+1,2,C⟩ (F false)).setCell ⟨w.heap.size+1+1+1,3,C⟩ (D C 0 0))).cell? ⟨w.heap.size+1,3,C⟩=some (d l x.en) from (K (a:=⟨w.heap.size+1,3,C⟩) (zaf (w.heap.size+1+1+1) [(0,d l 0),(1,D A1 ws.length c1),(2,F false),(3,D C 0 0)] w7 (w.heap.size+1) (by omega))).trans q3'');have c2_s:=(show (((((w7.setCell ⟨w.heap.size+1+1+1,0,C⟩ (d l 0)).setCell ⟨w.heap.size+1+1+1,1,C⟩ (D A1 ws.length c1)).setCell ⟨w.heap.size+1+1+1,2,C⟩ (F false)).setCell ⟨w.heap.size+1+1+1,3,C⟩ (D C 0 0))).cell? ⟨w.heap.size,3,C⟩=some (D (some ⟨b,o,C⟩) S.sources.length p.c3) from (K (a:=⟨w.heap.size,3,C⟩) (zaf (w.heap.size+1+1+1) [(0,d l 0),(1,D A1 ws.length c1),(2,F false),(3,D C 0 0)] w7 (w.heap.size) (by omega))).trans c2'');have n0_s:=(show (((((w7.setCell ⟨w.heap.size+1+1+1,0,C⟩ (d l 0)).setCell ⟨w.heap.size+1+1+1,1,C⟩ (D A1 ws.length c1)).setCell ⟨w.heap.size+1+1+1,2,C⟩ (F false)).setCell ⟨w.heap.size+1+1+1,3,C⟩ (D C 0 0))).cell? ⟨b,o+j*6,C⟩=some (E y.name) from (K (a:=⟨b,o+j*6,C⟩) (zaf (w.heap.size+1+1+1) [(0,d l 0),(1,D A1 ws.length c1),(2,F false),(3,D C 0 0)] w7 (b) (by omega))).trans n0'');
         obtain ⟨v0,v1,v2,v3⟩:=kb4 HB7.out l3 ⟨u0,u1,u2,u3⟩;
         obtain ⟨vf0,vf1,vf2,vf3⟩:=kf4 HB7.out l3 ⟨uf0,uf1,uf2,uf3⟩;
         have HO7:=Hd (zao ho7 (Nat.le_succ _));have HW7:=Hd hw7;have HLN:=Hd hlen;clear ho7 hw7 hb7 hlen)))
    all_goals
     go_wp2
     go_meet
     exact ⟨A1,_,c1,ws,zhi HLN.out (by omega) hcc HO7.out (Nat.le_of_eq HSZ.out.symm) HW7.out HB.out HSZ.out HB7.out H3.out⟩
  · obtain ⟨-,-,-,-,q4,q5⟩:=kr6 H1.out
    have dk1:(x.kind == 1)=false:=by rw [hk];rfl
    have dk2:(x.kind == 2)=false:=by rw [hk];rfl
    have zr64:I64 x.zr∧I64 x.zx:=by
     obtain ⟨-,h1,-⟩:=HRG.out
     rcases h1 with ⟨-,h1,-⟩ | ⟨h1,-⟩
     · obtain ⟨a1,a2,a3,a4⟩:=h1
       unfold I64;omega
     · exact absurd hk h1
    have HT0:=Hd (HT.out.below HB.out HT.out.2)
    obtain ⟨u0,u1,u2,u3⟩:=kr4 H3.out;obtain ⟨uf0,uf1,uf2,uf3⟩:=kq4 H3.out
    have hne3:w.heap.size+1≠W0.heap.size:=Nat.ne_of_lt l1
    have hne3':=hne3.symm
    clear hk ho1
    go_upto_region 3 with fail
    have HOH:=Hd (show ∀ (W':World) (k:Nat),Tab W'→Row W' k 110 [d l x.zr,d l x.zx]→Calls Tryz.prog 119 #[D (some ⟨k,0,C⟩) 1 1] W' (zeP 2 W') from fun W' k T' R' =>
     zhA (fun b=>b=k) (some ⟨k,0,C⟩) 1 [(x.zr,x.zx)] W' T' ⟨rfl,fun _=>⟨k,0,rfl,rfl,fun i y hy=>by
      cases i with
      | zero=>cases hy;exact ⟨_,rfl,⟨rfl,zr64.1,zr64.2⟩,fun j v hv=>by simpa using J R' hv⟩
      | succ i=>simp at hy⟩⟩ (by simp) (fun b hb=>by subst hb;exact R'.lt))
    have HBA:=Hd (((zaa W0 (G #[E ⟨#[98,97,121]⟩,E x.name,E ⟨#[99,111,117,112,108,101,114]⟩] 9)).alloc (by simp) (G #[d l x.zr,d l x.zx] 110)).drew)
    have HTA:=Hd (HT0.out.below HBA.out HT0.out.2)
    have HRA:=Hd ((V (w:=W0.alloc (G #[E ⟨#[98,97,121]⟩,E x.name,E ⟨#[99,111,117,112,108,101,114]⟩] 9)) (t := 110) (W0.heap.size+1) [d l x.zr,d l x.zx] (by simp)).drew)
    have HLA:=Hd (zdC ((zby W0 [E ⟨#[98,97,121]⟩,E x.name,E ⟨#[99,111,117,112,108,101,114]⟩] 9 1 3 rfl (by unfold maxLen;omega)).alloc (G #[d l x.zr,d l x.zx] 110)))
    have HBB:=Hd (((zaa W0 (G #[d l x.zr,d l x.zx] 110)).alloc (by simp) (G #[E ⟨#[98,97,121]⟩,E x.name,E ⟨#[99,111,117,112,108,101,114]⟩] 9)).drew)
    have HTB:=Hd (HT0.out.below HBB.out HT0.out.2)
    have HRB:=Hd (((V (w:=W0) (t := 110) W0.heap.size [d l x.zr,d l x.zx] rfl).below (zaa _ (G #[E ⟨#[98,97,121]⟩,E x.name,E ⟨#[99,111,117,112,108,101,114]⟩] 9)) (by simp)).drew)
    have hlb:=zdC (zao (zby (W0.alloc (G #[d l x.zr,d l x.zx] 110)) [E ⟨#[98,97,121]⟩,E x.name,E ⟨#[99,111,117,112,108,101,114]⟩] 9 1 3 rfl (by unfold maxLen;omega)) (base':=W0.heap.size) (by simp))
    rw [World.size_alloc] at hlb
    have HLB:=Hd hlb
    clear hlb
    have HBC:=Hd ((zaa W0 (G #[d l x.zr,d l x.zx] 110)).drew)
    have HTC:=Hd (HT0.out.below HBC.out HT0.out.2)
    have HRC:=Hd ((V (w:=W0) (t := 110) W0.heap.size [d l x.zr,d l x.zx] rfl).drew)
    have hne5:w.heap.size+1≠W0.heap.size+1:=by omega
    have hne5':=hne5.symm
    go_region_held3 (fun w'=>w'.cell? ⟨w.heap.size+1,0,C⟩=some (E x.name)∧w'.cell? ⟨w.heap.size+1,4,C⟩=some (d l x.zr)∧w'.cell? ⟨w.heap.size+1,5,C⟩=some (d l x.zx)) (go_keep) (first
     | ((go_at_call 119;(with_reducible refine (HOH.out _ _ HTA.out HRA.out).mono ?_);rintro e w6 ⟨A6,c6,ss,rfl,hss,hc6,hw6,ho6,hb6⟩;have hsA:=HBA.out.size;have HB6:=Hd (HBA.out.trans (hb6.mono hsA));have HSS:=Hd hss;have HW6:=Hd hw6;obtain ⟨q0',q4',q5'⟩:=kb3 HB6.out l1 ⟨q0,q4,q5⟩;have HON:=Hd (show ∀ u∈ss.map E,u.oneCell'=true from by intro u hu;obtain ⟨y,-,rfl⟩:=List.mem_map.1 hu;rfl);have HOW6:=Hd (zab HLA.out hb6 (U _));have HSR6:=Hd (Src.of_own ho6);have hs6:W0.heap.size≤w6.heap.size:=HB6.out.size;have HBX:=Hd HB6.out;clear hss hw6 ho6 hb6))
     | ((go_at_call 119;(with_reducible refine (HOH.out _ _ HTB.out HRB.out).mono ?_);rintro e w6 ⟨A6,c6,ss,rfl,hss,hc6,hw6,ho6,hb6⟩;have hsA:=HBB.out.size;have HB6:=Hd (HBB.out.trans (hb6.mono hsA));have HSS:=Hd hss;have HW6:=Hd hw6;obtain ⟨q0',q4',q5'⟩:=kb3 HB6.out l1 ⟨q0,q4,q5⟩;have HON:=Hd (show ∀ u∈ss.map E,u.oneCell'=true from by intro u hu;obtain ⟨y,-,rfl⟩:=List.mem_map.1 hu;rfl);have HOW6:=Hd (zab HLB.out hb6 (U _));have HSR6:=Hd (Src.of_own ho6);have hs6:W0.heap.size≤w6.heap.size:=HB6.out.size;have HBX:=Hd HB6.out;clear hss hw6 ho6 hb6))
     | ((go_at_call 119;(with_reducible refine (HOH.out _ _ HTC.out HRC.out).mono ?_);rintro e w6 ⟨A6,c6,ss,rfl,hss,hc6,hw6,ho6,hb6⟩;have hsA:=HBC.out.size;have HB6:=Hd (HBC.out.trans (hb6.mono hsA));have HSS:=Hd hss;have HW6:=Hd hw6;obtain ⟨q0',q4',q5'⟩:=kb3 HB6.out l1 ⟨q0,q4,q5⟩;have HON:=Hd (show ∀ u∈ss.map E,u.oneCell'=true from by intro u hu;obtain ⟨y,-,rfl⟩:=List.mem_map.1 hu;rfl);have hs60:=HB6.out.size;have hn6:w.heap.size+1≠w6.heap.size:=(by omega);have hn6':=hn6.symm;have HOW6:=Hd (zao (zby w6 [E ⟨#[98,97,121]⟩,E x.name,E ⟨#[99,111,117,112,108,101,114]⟩] 9 1 3 rfl (by unfold maxLen;omega)) (base':=W0.heap.size) hs60);have HSR6:=Hd (Src.of_own (ho6.alloc (G #[E ⟨#[98,97,121]⟩,E x.name,E ⟨#[99,111,117,112,108,101,114]⟩] 9)));have HBX:=Hd (HB6.out.alloc hs60 (G #[E ⟨#[98,97,121]⟩,E x.name,E ⟨#[99,111,117,112,108,101,114]⟩] 9));have hs6:W0.heap.size≤(w6.alloc (G #[E ⟨#[98,97,121]⟩,E x.name,E ⟨#[99,111,117,112,108,101,114]⟩] 9)).heap.size:=HBX.out.size;clear hss hw6 ho6 hb6))
     | ((refine zai (o:=⟨some 19,_,_,_,_,_⟩) (w:=w6) _ _ 22 rfl rfl Tryz.underlying22 HTI.out.1 HTI.out.2.1 HTI.out.2.2.1 HTI.out.2.2.2 rfl (by decide) rfl HOW6.out rfl HSR6.out HON.out (by unfold maxLen;omega) (by omega) hs6 ?_;intro v8 w8 hown8 hg8 hv8;obtain ⟨A8,k8,hv8e,-,-⟩:=zac hown8;subst hv8e;have HB8:=Hd (HBX.out.trans (zaC hg8 hs6 fun q hq=>(HOW6.out.lt q hq).1));obtain ⟨m0,m4,m5⟩:=kb3 HB8.out l1 ⟨q0,q4,q5⟩;have HST:=Hd (zeg (W:=w8) (base:=W0.heap.size) (A:=A8) (c:=k8) (n:=5) (xs:=[⟨#[98,97,121]⟩,x.name,⟨#[99,111,117,112,108,101,114]⟩]++ss) (by simpa using hown8) (by simp [HSS.out]) (by intro s hs;simp only [O,List.mem_append,M,or_false] at hs;rcases hs with (rfl | rfl | rfl) | hs;exact I rfl;exact HNX.out;exact I rfl;exact HW6.out s hs) (by omega));clear hown8 hg8 hv8))
     | ((refine zai (o:=⟨some 19,_,_,_,_,_⟩) (w:=w6.alloc (G #[.string ⟨#[98,97,121]⟩,.string x.name,.string ⟨#[99,111,117,112,108,101,114]⟩] 9)) _ _ 22 rfl rfl Tryz.underlying22 HTI.out.1 HTI.out.2.1 HTI.out.2.2.1 HTI.out.2.2.2 rfl (by decide) rfl HOW6.out rfl HSR6.out HON.out (by unfold maxLen;omega) (by omega) hs6 ?_;intro v8 w8 hown8 hg8 hv8;obtain ⟨A8,k8,hv8e,-,-⟩:=zac hown8;subst hv8e;have HB8:=Hd (HBX.out.trans (zaC hg8 hs6 fun q hq=>(HOW6.out.lt q hq).1));obtain ⟨m0,m4,m5⟩:=kb3 HB8.out l1 ⟨q0,q4,q5⟩;have HST:=Hd (zeg (W:=w8) (base:=W0.heap.size) (A:=A8) (c:=k8) (n:=5) (xs:=[⟨#[98,97,121]⟩,x.name,⟨#[99,111,117,112,108,101,114]⟩]++ss) (by simpa using hown8) (by simp [HSS.out]) (by intro s hs;simp only [O,List.mem_append,M,or_false] at hs;rcases hs with (rfl | rfl | rfl) | hs;exact I rfl;exact HNX.out;exact I rfl;exact HW6.out s hs) (by omega));clear hown8 hg8 hv8))
     | ((go_at_call 118;(refine (HST.out _ (by rfl)).mono ?_);rintro e w7 ⟨A1,c1,ws,rfl,hlen,hcc,ho7,hw7,hb7⟩;have HB7:=Hd (HB8.out.trans (hb7.mono HB8.out.size));have r0:=(HB7.out.cell (p:=⟨w.heap.size+1,0,C⟩) l1).trans q0;have r0_s:=(show (((((w7.setCell ⟨w.heap.size+1+1+1,0,C⟩ (d l 0)).setCell ⟨w.heap.size+1+1+1,1,C⟩ (D A1 ws.length c1)).setCell ⟨w.heap.size+1+1+1,2,C⟩ (F false)).setCell ⟨w.heap.size+1+1+1,3,C⟩ (D C 0 0))).cell? ⟨w.heap.size+1,0,C⟩=some (E x.name) from (K (a:=⟨w.heap.size+1,0,C⟩) (zaf (w.heap.size+1+1+1) [(0,d l 0),(1,D A1 ws.length c1),(2,F false),(3,D C 0 0)] w7 (w.heap.size+1) (by omega))).trans r0);have r4:=(HB7.out.cell (p:=⟨w.heap.size+1,4,C⟩) l1).trans q4;have r4_s:=(show (((((w7.setCell ⟨w.heap.size+1+1+1,0,C⟩ (d l 0)).setCell ⟨w.heap.size+1+1+1,1,C⟩ (D A1 ws.length c1)).setCell ⟨w.heap.size+1+1+1,2,C⟩ (F false)).setCell ⟨w.heap.size+1+1+1,3,C⟩ (D C 0 0))).cell? ⟨w.heap.size+1,4,C⟩=some (d l x.zr) from (K (a:=⟨w.heap.size+1,4,C⟩) (zaf (w.heap.size+1+1+1) [(0,d l 0),(1,D A1 ws.length c1),(2,F false),(3,D C 0 0)] w7 (w.heap.size+1) (by omega))).trans r4);have r5:=(HB7.out.cell (p:=⟨w.heap.size+1,5,C⟩) l1).trans q5;have r5_s:=(show (((((w7.setCell ⟨w.heap.size+1+1+1,0,C⟩ (d l 0)).setCell ⟨w.heap.size+1+1+1,1,C⟩ (D A1 ws.length c1)).setCell ⟨w.heap.size+1+1+1,2,C⟩ (F false)).setCell ⟨w.heap.size+1+1+1,3,C⟩ (D C 0 0))).cell? ⟨w.heap.size+1,5,C⟩=some (d l x.zx) from (K (a:=⟨w.heap.size+1,5,C⟩) (zaf (w.heap.size+1+1+1) [(0,d l 0),(1,D A1 ws.length c1),(2,F false),(3,D C 0 0)] w7 (w.heap.size+1) (by omega))).trans r5);obtain ⟨v0,v1,v2,v3⟩:=kb4 HB7.out l3 ⟨u0,u1,u2,u3⟩;obtain ⟨vf0,vf1,vf2,vf3⟩:=kf4 HB7.out l3 ⟨uf0,uf1,uf2,uf3⟩;have HO7:=Hd (zao ho7 HB8.out.size);have HW7:=Hd hw7;have HLN:=Hd hlen;clear ho7 hw7 hb7 hlen))
     | fail)
    all_goals
     go_wp2
     go_meet
     exact ⟨A1,_,c1,ws,zhi HLN.out (by omega) hcc HO7.out (Nat.le_of_eq HSZ.out.symm) HW7.out HB.out HSZ.out HB7.out H3.out⟩
 case rest =>
  obtain ⟨A1,n1,c1,ws,h0⟩:=hcut;have g2:=J (k:=2) (v := F false) h0.row rfl;have gf2:=Row.free h0.row 2;have h1:=h0.block (by omega);have HH1:=Hd h1;have r1:Row (wc.setCell ⟨w.heap.size+1+1+1,2,C⟩ (F true)) (w.heap.size+1) 113 [E x.name,d l x.kind,d l x.ofi,d l x.en,d l x.zr,d l x.zx,D A x.links.length c,F x.closed,d l x.ct,d l x.vt,d l x.sat,d l x.travel]:=(h1.keep (w.heap.size+1) (by omega) (by omega)).trans H1.out;have ht:Tab (wc.setCell ⟨w.heap.size+1+1+1,2,C⟩ (F true)):=HT.out.below h1.bel HT.out.2;have HTW:=Hd ht;clear ht;have q8:=J (k:=8) (v := d l x.ct) r1 rfl;have rl:=r1.lt;clear r1;clear h0 h1;go_wp2_with fail
  have h1:=HH1.out;refine (zcg x.ct (by have:=HRG.out;obtain ⟨⟨e1,e2⟩,e3,⟨e4,e5⟩,⟨e6,e7⟩,e8,e9⟩:=this;unfold I64;omega) _ HTW.out).mono ?_
  rintro e wa10 ⟨s10,rfl,hw10,hb10⟩
  have h10:=h1.below hb10;go_wp2_with fail
  refine (addL 0 (fun b=>b=w.heap.size+1+1+1) (w.heap.size+4) (w.heap.size+1+1+1) _ _ _ [⟨#[99,116]⟩,s10] 2 #[.string ⟨#[99,116]⟩,.string s10] wa10 rfl h10.row h10.gr (by simp) rfl rfl (by decide) (by intro s hs;simp only [O,M,or_false] at hs;rcases hs with rfl | rfl;exact I rfl;exact hw10)).mono ?_
  rintro e wb10 hr
  obtain ⟨rfl,v10,cs10,k10⟩:=(h10.below (zaa wa10 _)).add hr;have hl10:(([]:List (List Value))++[cs10]).length≤1:=by first | (have:=HHL.out;simp at this ⊢;omega) | (simp;done)
  clear hr hw10 hb10 h10
  skip
  have HH:=Hd k10;have HHL:=Hd hl10;clear k10;have r1:Row wb10 (w.heap.size+1) 113 [E x.name,d l x.kind,d l x.ofi,d l x.en,d l x.zr,d l x.zx,D A x.links.length c,F x.closed,d l x.ct,d l x.vt,d l x.sat,d l x.travel]:=(HH.out.keep (w.heap.size+1) (by omega) (by omega)).trans H1.out;have ht:Tab wb10:=HT.out.below HH.out.bel HT.out.2;have HTW:=Hd ht;clear ht;obtain ⟨-,q1,-,-,-,-,-,-,-,q9⟩:=kr10 r1;have rl:=r1.lt;clear r1
  go_upto_if 60 with fail
  go_cut [] from 58 to 66 (fun wr=>zkN 2 w.heap.size (w.heap.size+4) (w.heap.size+1+1+1) w W0 wr)
  case first =>
   by_cases hc:x.kind≠3
   · have e1:(x.kind != 3)=true:=by rw [bne_iff_ne];exact hc
     go_wp2_with fail
     refine (zcg x.vt (by have:=HRG.out;obtain ⟨⟨e1,e2⟩,e3,⟨e4,e5⟩,⟨e6,e7⟩,e8,e9⟩:=this;unfold I64;omega) _ HTW.out).mono ?_
     rintro e wa11 ⟨s11,rfl,hw11,hb11⟩
     have h11:=HH.out.below hb11
     go_wp2_with fail
     refine (addL 0 (fun b=>b=w.heap.size+1+1+1) (w.heap.size+4) (w.heap.size+1+1+1) _ _ _ [⟨#[118,116]⟩,s11] 2 #[.string ⟨#[118,116]⟩,.string s11] wa11 rfl h11.row h11.gr (by have:=HHL.out;first | omega | (simp at this ⊢;done) | (simp at this ⊢;omega)) rfl rfl (by decide) (by intro s hs;simp only [O,M,or_false] at hs;rcases hs with rfl | rfl;exact I rfl;exact hw11)).mono ?_
     rintro e wb11 hr
     obtain ⟨rfl,v11,cs11,k11⟩:=(h11.below (zaa wa11 _)).add hr
     have hl11:(([]++[cs10])++[cs11]).length≤2:=by first | (have:=HHL.out;simp at this ⊢;omega) | (simp;done)
     clear hr hw11 hb11 h11
     go_wp2
     go_meet
     exact ⟨_,_,_,_,_,_,k11,hl11⟩
   · have e1:(x.kind != 3)=false:=by simpa using hc
     go_wp2
     go_meet
     exact ⟨_,_,_,_,_,_,HH.out,by have:=HHL.out;first | omega | (simp at this ⊢;done) | (simp at this ⊢;omega)⟩
  case rest =>
   obtain ⟨wv13,rfl⟩:∃ W:World,W=wc:=⟨_,rfl⟩;obtain ⟨A1,n1,c1,v,its,ws,h13,hl13⟩:=hcut;clear HH HHL HTW rl q1 q9;have HH:=Hd h13;have HHL:=Hd hl13;clear h13;have r1:Row wv13 (w.heap.size+1) 113 [E x.name,d l x.kind,d l x.ofi,d l x.en,d l x.zr,d l x.zx,D A x.links.length c,F x.closed,d l x.ct,d l x.vt,d l x.sat,d l x.travel]:=(HH.out.keep (w.heap.size+1) (by omega) (by omega)).trans H1.out;have ht:Tab wv13:=HT.out.below HH.out.bel HT.out.2;have HTW:=Hd ht;clear ht;have q10:=J (k:=10) (v := d l x.sat) r1 rfl;have rl:=r1.lt;clear r1
   go_upto_if 69 with fail
   go_cut [] from 67 to 75 (fun wr=>zkN 3 w.heap.size (w.heap.size+4) (w.heap.size+1+1+1) w W0 wr)
   case first =>
    by_cases hc:x.sat≠0
    · have e1:(x.sat != 0)=true:=by rw [bne_iff_ne];exact hc
      go_wp2_with fail
      refine (zcg x.sat (by have:=HRG.out;obtain ⟨⟨e1,e2⟩,e3,⟨e4,e5⟩,⟨e6,e7⟩,e8,e9⟩:=this;unfold I64;omega) _ HTW.out).mono ?_
      rintro e wa13 ⟨s13,rfl,hw13,hb13⟩
      have h13:=HH.out.below hb13
      go_wp2_with fail
      refine (addL 0 (fun b=>b=w.heap.size+1+1+1) (w.heap.size+4) (w.heap.size+1+1+1) _ _ _ [⟨#[115,97,116]⟩,s13] 2 #[.string ⟨#[115,97,116]⟩,.string s13] wa13 rfl h13.row h13.gr (by have:=HHL.out;first | omega | (simp at this ⊢;done) | (simp at this ⊢;omega)) rfl rfl (by decide) (by intro s hs;simp only [O,M,or_false] at hs;rcases hs with rfl | rfl;exact I rfl;exact hw13)).mono ?_
      rintro e wb13 hr
      obtain ⟨rfl,v13,cs13,k13⟩:=(h13.below (zaa wa13 _)).add hr
      have hl13:(its++[cs13]).length≤3:=by first | (have:=HHL.out;simp at this ⊢;omega) | (simp;done)
      clear hr hw13 hb13 h13
      go_wp2
      go_meet
      exact ⟨_,_,_,_,_,_,k13,hl13⟩
    · have e1:(x.sat != 0)=false:=by simpa using hc
      go_wp2
      go_meet
      exact ⟨_,_,_,_,_,_,HH.out,by have:=HHL.out;first | omega | (simp at this ⊢;done) | (simp at this ⊢;omega)⟩
   case rest =>
    obtain ⟨wv15,rfl⟩:∃ W:World,W=wc:=⟨_,rfl⟩;obtain ⟨A1,n1,c1,v,its,ws,h15,hl15⟩:=hcut;clear HH HHL HTW rl q10;have HH:=Hd h15;have HHL:=Hd hl15;clear h15;have r1:Row wv15 (w.heap.size+1) 113 [E x.name,d l x.kind,d l x.ofi,d l x.en,d l x.zr,d l x.zx,D A x.links.length c,F x.closed,d l x.ct,d l x.vt,d l x.sat,d l x.travel]:=(HH.out.keep (w.heap.size+1) (by omega) (by omega)).trans H1.out;have ht:Tab wv15:=HT.out.below HH.out.bel HT.out.2;have HTW:=Hd ht;clear ht;obtain ⟨-,-,-,-,-,-,q6,-,-,-,-,q11⟩:=kr12 r1;have rl:=r1.lt;clear r1;go_wp2_with fail
    refine (zcg x.travel (by have:=HRG.out;obtain ⟨⟨e1,e2⟩,e3,⟨e4,e5⟩,⟨e6,e7⟩,e8,e9⟩:=this;unfold I64;omega) _ HTW.out).mono ?_
    rintro e wa15 ⟨s15,rfl,hw15,hb15⟩
    have h15:=HH.out.below hb15;go_wp2_with fail
    refine (addL 0 (fun b=>b=w.heap.size+1+1+1) (w.heap.size+4) (w.heap.size+1+1+1) _ _ _ [⟨#[116,114,97,118,101,108]⟩,s15] 2 #[.string ⟨#[116,114,97,118,101,108]⟩,.string s15] wa15 rfl h15.row h15.gr (by have:=HHL.out;omega) rfl rfl (by decide) (by intro s hs;simp only [O,M,or_false] at hs;rcases hs with rfl | rfl;exact I rfl;exact hw15)).mono ?_
    rintro e wb15 hr
    obtain ⟨rfl,v15,cs15,k15⟩:=(h15.below (zaa wa15 _)).add hr;have hl15:(its++[cs15]).length≤4:=by first | (have:=HHL.out;simp at this ⊢;omega) | (simp;done)
    clear hr hw15 hb15 h15;clear HH HHL HTW rl q6 q11;have HH:=Hd k15;have HHL:=Hd hl15;clear k15;have r1:Row wb15 (w.heap.size+1) 113 [E x.name,d l x.kind,d l x.ofi,d l x.en,d l x.zr,d l x.zx,D A x.links.length c,F x.closed,d l x.ct,d l x.vt,d l x.sat,d l x.travel]:=(HH.out.keep (w.heap.size+1) (by omega) (by omega)).trans H1.out;have ht:Tab wb15:=HT.out.below HH.out.bel HT.out.2;have HTW:=Hd ht;clear ht;have q6:=J (k:=6) (v := D A x.links.length c) r1 rfl;have rl:=r1.lt;clear r1;go_wp2
    go_loopw [85] (LnkR x.links.length w.heap.size (w.heap.size+4) (w.heap.size+1+1+1) w W0) (fun i _=>x.links.length-(intOf i).toNat)
    case atStart=>exact ⟨0,Nat.zero_le _,rfl,_,_,_,_,_,_,HH.out,HHL.out⟩
    case round =>
     clear HH HHL HTW rl q6;obtain ⟨k,hk,rfl,A1,n1,c1,v,its,ws,hh,hlen⟩:=hrel
     by_cases hlt:k<x.links.length
     · obtain ⟨b,o,cs,y,hA,hbB,hy,-,hyc,hat⟩:=HL.out.at_ hlt
       have hyc':cs=[d l y.1,d l y.2]:=hyc
       subst hyc'
       subst hA
       obtain ⟨⟨hy1,hy2⟩,-⟩:=HLK.out.each k y hy
       obtain ⟨j,hj⟩:∃ j:Nat,y.1=(j:Int):=⟨y.1.toNat,by omega⟩
       have hjl:j<S.buses.length:=by omega
       obtain ⟨b2,o2,nm,hA2,hb2,hx2,-,hc2⟩:=HS.out.buses.strAt hjl
       have hnm:Wt nm:=Y (zbF HF.out (by simp only [StatM.names,List.mem_append];exact .inl (X hx2)))
       have r0:Row wr w.heap.size 27 [E S.name,D p.A1 S.buses.length p.c1,D p.A2 S.lines.length p.c2,D p.A3 S.sources.length p.c3,D p.A4 S.bays.length p.c4]:=(hh.keep w.heap.size (by omega) (by omega)).trans H0.out
       have s1:=J (k:=1) (v := D p.A1 S.buses.length p.c1) r0 rfl
       rw [hA2] at s1
       have sl:=r0.lt
       have hbw:b<w.heap.size:=by omega
       have hb2w:b2<w.heap.size:=by omega
       have c0:wr.cell? ⟨b,o+k*2,C⟩=some (d l (j:Int)):=(hh.bel.cell (p:=⟨b,o+k*2,C⟩) hbw).trans (by simpa [hj] using hat 0 _ rfl)
       have c1':wr.cell? ⟨b,o+k*2+1,C⟩=some (d l y.2):=(hh.bel.cell (p:=⟨b,o+k*2+1,C⟩) hbw).trans (by simpa using hat 1 _ rfl)
       have n0:wr.cell? ⟨b2,o2+j,C⟩=some (E nm):=(hh.bel.cell (p:=⟨b2,o2+j,C⟩) hb2w).trans hc2
       have hws:=hh.bel.size
       have hL2:=HLK.out.n.2
       have hki:(k:Int)<(x.links.length:Int):=by omega
       have hk0:(0:Int)≤(k:Int):=by omega
       have hji:(j:Int)<(S.buses.length:Int):=by omega
       have hj0:(0:Int)≤(j:Int):=by omega
       have hbx:=zaa wr (G #[d l (j:Int),d l y.2] 179)
       have R8:Row (wr.alloc (G #[d l (j:Int),d l y.2] 179)) wr.heap.size 179 [d l (j:Int),d l y.2]:=V _ [d l (j:Int),d l y.2] rfl
       obtain ⟨e0,e1⟩:=kr2 R8
       have s1':=(hbx.cell (p:=⟨w.heap.size,1,C⟩) sl).trans s1
       have n0':=(hbx.cell (p:=⟨b2,o2+j,C⟩) (by show b2<_;omega)).trans n0
       have HQ:=Hd (hh.below hbx)
       have HLE:=Hd hlen
       have HNM:=Hd hnm
       clear hh hlen hnm hx2 hc2 hat hy hbx r0 R8 hyc hj hA2
       go_upto_region 19 with fail
       clear c0 c1' n0 s1 sl
       generalize wr.alloc (G #[d l (j:Int),d l y.2] 179)=w4 at *
       by_cases hp:y.2=1
       · have ep:(y.2 == 1)=true:=by rw [hp];rfl
         go_wp2_with fail
         refine (addL 0 (fun b=>b=w.heap.size+1+1+1) (w.heap.size+4) (w.heap.size+1+1+1) _ _ _ [⟨#[115,101,108,101,99,116]⟩,nm,⟨#[99,108,111,115,101,100]⟩] 3 #[.string ⟨#[115,101,108,101,99,116]⟩,.string nm,.string ⟨#[99,108,111,115,101,100]⟩] w4 rfl HQ.out.row HQ.out.gr (by have:=HLE.out;have:=HLK.out.n;omega) rfl rfl (by decide) (by intro s hs;simp only [O,M,or_false] at hs;rcases hs with rfl | rfl | rfl;exact I rfl;exact HNM.out;exact I rfl)).mono ?_
         rintro e w7 hr
         obtain ⟨rfl,v7,cs7,k7⟩:=(HQ.out.below (zaa w4 _)).add hr
         have K7:=Hd k7
         clear hr k7
         go_wp2
         go_roundw
         case rel=>exact ⟨k+1,by omega,by go_num,_,_,_,_,_,_,K7.out,by have:=HLE.out;simp at this ⊢;omega⟩
         case measure=>simp [intOf];omega
       · have ep:(y.2 == 1)=false:=by rw [beq_eq_false_iff_ne];exact hp
         go_wp2_with fail
         refine (addL 0 (fun b=>b=w.heap.size+1+1+1) (w.heap.size+4) (w.heap.size+1+1+1) _ _ _ [⟨#[115,101,108,101,99,116]⟩,nm,⟨#[111,112,101,110]⟩] 3 #[.string ⟨#[115,101,108,101,99,116]⟩,.string nm,.string ⟨#[111,112,101,110]⟩] w4 rfl HQ.out.row HQ.out.gr (by have:=HLE.out;have:=HLK.out.n;omega) rfl rfl (by decide) (by intro s hs;simp only [O,M,or_false] at hs;rcases hs with rfl | rfl | rfl;exact I rfl;exact HNM.out;exact I rfl)).mono ?_
         rintro e w7 hr
         obtain ⟨rfl,v7,cs7,k7⟩:=(HQ.out.below (zaa w4 _)).add hr
         have K7:=Hd k7
         clear hr k7
         go_wp2
         go_roundw
         case rel=>exact ⟨k+1,by omega,by go_num,_,_,_,_,_,_,K7.out,by have:=HLE.out;simp at this ⊢;omega⟩
         case measure=>simp [intOf];omega
     · obtain rfl:k=x.links.length:=by omega
       have HQ:=Hd hh
       have HLE:=Hd hlen
       clear hh hlen
       have r1:Row wr (w.heap.size+1) 113 [E x.name,d l x.kind,d l x.ofi,d l x.en,d l x.zr,d l x.zx,D A x.links.length c,F x.closed,d l x.ct,d l x.vt,d l x.sat,d l x.travel]:=(HQ.out.keep (w.heap.size+1) (by omega) (by omega)).trans H1.out
       have ht:Tab wr:=HT.out.below HQ.out.bel HT.out.2
       have HTW:=Hd ht
       clear ht
       have q7:=J (k:=7) (v := F x.closed) r1 rfl
       have rl:=r1.lt
       clear r1
       clear hlt
       go_upto_if 105 with fail
       go_cut [] from 103 to 108 (fun wr=>zkN 7 w.heap.size (w.heap.size+4) (w.heap.size+1+1+1) w W0 wr)
       case first =>
        go_wp2_with fail
        · skip
          refine (addL 0 (fun b=>b=w.heap.size+1+1+1) (w.heap.size+4) (w.heap.size+1+1+1) _ _ _ [⟨#[98,114,101,97,107,101,114]⟩,⟨#[111,112,101,110]⟩] 2 #[.string ⟨#[98,114,101,97,107,101,114]⟩,.string ⟨#[111,112,101,110]⟩] wr rfl HQ.out.row HQ.out.gr (by have:=HLE.out;have:=HLK.out.n;omega) rfl rfl (by decide) (by intro s hs;simp only [O,M,or_false] at hs;rcases hs with rfl | rfl;exact I rfl;exact I rfl)).mono ?_
          rintro e w7 hr
          obtain ⟨rfl,v7,cs7,k7⟩:=(HQ.out.below (zaa wr _)).add hr
          have K7:=Hd k7
          clear hr k7
          go_wp2
          go_meet
          exact ⟨_,_,_,_,_,_,K7.out,by have:=HLE.out;have:=HLK.out.n;simp;omega⟩
        · skip
          go_meet
          exact ⟨_,_,_,_,_,_,HQ.out,by have:=HLE.out;have:=HLK.out.n;omega⟩
       case rest =>
        obtain ⟨A1,n1,c1,v,its,ws,h9,hl9⟩:=hcut
        obtain ⟨u0,u1,u2,u3⟩:=kr4 h9.row
        have r2:Row wc (w.heap.size+1+1) 211 itZ:=(h9.keep (w.heap.size+1+1) (by omega) (by omega)).trans H2.out
        obtain ⟨z0,z1,z2,z3⟩:=kr4 r2;obtain ⟨zf0,zf1,zf2,zf3⟩:=kq4 r2
        obtain ⟨A9,c9,rfl,hc9,hm9⟩:=zac h9.gr.own
        have HQ9:=Hd h9
        have HL9:=Hd hl9
        clear h9 hl9 r2
        go_wp2
        refine bodyPost_ret (v := .agg #[d l 0,D A1 n1 c1,F true,D A9 its.length c9]) (by simp [results,Tryz.results121,go_sem,z0,z1,z2,z3]) rfl ?_
        exact zl6 HQ9.out HL9.out hc9 hm9 (r:=w.heap.size+1+1) (by omega) rfl
end Go.Proofs.YtjkimieapfbhbaaGreatDoor
