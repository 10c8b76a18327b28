/-
 strings.Builder: copyCheck, WriteByte, WriteString (the kit's walks turned to this program), and what they leave of other boxes.
-/
import Derived.Test.YtjkimieapfbhbaaGreatDoorKZd
import Derived.Test.YtjkimieapfbhbaaGreatDoorShelf
import Derived.Lib.Builder
import Derived.Lib.AppendStr
import Derived.Laws.Externs
import Derived.Laws.EntriesVeiled
import Derived.Laws.Closers25b
import Derived.Test.YtjkimieapfbhbaaGreatDoorYm
import Derived.Test.YtjkimieapfbhbaaGreatDoorKQb
set_option maxRecDepth 100000
set_option maxHeartbeats 8000000
open Option renaming none → a
open Go.Value renaming slice → f, string → D, int → E, bool → F, agg → O, ownBlock → U
open Go.Obj renaming cells → C
open Go.Proofs.Tryz renaming prog → G
open Nat renaming le_trans → I, le_refl → M, zero_le → P, lt_of_lt_of_le → V
open Go.Ending renaming returned → J
namespace Go.Proofs.YtjkimieapfbhbaaGreatDoor
open Go.RowKit
theorem zlO {w:World} {base size n g:Nat} {e t:TypeId} {v:Value} {xs cs:List Value} (h:w.ownsRow base e size v n xs) (R:Row w g t cs) (ht:t≠e):v.ownBlock≠some g:=by
 intro hv
 rcases h.2 with ⟨rfl,-⟩ | ⟨b,cap,cur,rfl,-,h3,-⟩
 · simp [U] at hv
 · have:b=g:=by simpa [U] using hv
   subst this
   have R':w.heap[b]? = some (.cells cs.toArray t (0,0)):=R
   rw [h3] at R'
   injection R' with R'
   injection R' with _ R'
   exact ht R'.symm
theorem zic:(Tryz.prog.info? 5).map (fun i=>(i.zero,i.size,i.bytes))=some (some (E .u8 0),1,1):=by kernel_rfl
theorem zex:(Tryz.prog.info? 207).map (fun i=>i.size)=some 2:=by kernel_rfl
theorem zhz:liesAt G Tryz.prog.depth 207 (2 / Tryz.prog.cellsOf 207) 0 207 1=true:=by kernel_rfl
theorem zeQ (b:Nat) (w:World) (h0:w.cell? ⟨b,0,a⟩=some (.pointer (some ⟨b,0,a⟩))) :
 Calls G 151 #[.pointer (some ⟨b,0,a⟩)] w fun e w'=>e = J (.tuple #[])∧w'=w:=by
 obtain ⟨j,hj,_⟩:=Option.map_eq_some_iff.1 zex;go_enter Tryz.func151,Tryz.ntmps151;go_wp2;rw [Lib.run_neq_ptr_same w _ Tryz.underlying204 hj];go_wp2;go_end0
 exact ⟨rfl,rfl⟩
theorem zeq (b:Nat) (w:World) (h0:w.cell? ⟨b,0,a⟩=some (.pointer a)) (hsh:w.shape? b=some (207,2)) (hfz:w.frozen? ⟨b,0,a⟩=false) :
 Calls G 151 #[.pointer (some ⟨b,0,a⟩)] w fun e w'=>e = J (.tuple #[])∧w'=w.setCell ⟨b,0,a⟩ (.pointer (some ⟨b,0,a⟩)):=by
 obtain ⟨j,hj,hjs⟩:=Option.map_eq_some_iff.1 zex;go_enter Tryz.func151,Tryz.ntmps151;go_wp2;rw [Lib.run_to_unsafe w ⟨b,0,a⟩ Tryz.underlying204 Tryz.underlying281 hj (by rw [hjs];decide) hsh (Nat.zero_lt_succ 1)];simp only [Result.andThen];rw [Oper.upon_value];go_wp2;rw [run_callFunc_extern Tryz.func185 (by kernel_rfl) (by kernel_rfl) (by kernel_rfl) (e:=Extern.AbiNoEscape.same) (by kernel_rfl)];rw [Lib.run_noEscape];simp only [Result.andThen];rw [Oper.upon_value];go_wp2;rw [Lib.run_from_unsafe w ⟨b,0,a⟩ Tryz.underlying281 Tryz.underlying204 hj hsh zhz];simp only [Result.andThen];rw [Oper.upon_value];go_wp2;go_end0
 exact ⟨rfl,rfl⟩
theorem zdt (B b:Nat) (bs:List Value) (w:World) (h:Lib.IsBuilder 207 5 B b bs w) :
 Calls G 151 #[.pointer (some ⟨b,0,a⟩)] w fun e w'=>e = J (.tuple #[])∧(Lib.BuilderAt 207 5 B b (.pointer (some ⟨b,0,a⟩)) bs w'∧Below B w w'∧(∀ (g:Nat) (t:TypeId) (cs:List Value),g≠b→t ≠ 5 → Row w g t cs→Row w' g t cs)):=by
 rcases h with h | h
 · refine (zeq b w h.cell0 h.shape h.frozen0).mono ?_
   rintro e w' ⟨rfl,rfl⟩
   exact ⟨rfl,h.used _,(Below.refl B w).setCell (p:=⟨b,0,a⟩) h.1 _,fun g t cs hg _ R=>(heap_setCell_other w ⟨b,0,a⟩ g _ hg).trans R⟩
 · refine (zeQ b w h.cell0).mono ?_
   rintro e w' ⟨rfl,rfl⟩
   exact ⟨rfl,h,Below.refl B _,fun _ _ _ _ _ R=>R⟩
theorem zgb (B b:Nat) (bs:List Value) (c:Int) (w:World) (h:Lib.IsBuilder 207 5 B b bs w) (hlen:bs.length+1≤140737488355328) (hBw:B≤w.heap.size) :
 Calls G 115 #[.pointer (some ⟨b,0,a⟩),E .u8 c] w fun e w'=>e = J .nilIface∧(Lib.BuilderAt 207 5 B b (.pointer (some ⟨b,0,a⟩)) (bs++[E .u8 c]) w'∧Below B w w'∧(∀ (g:Nat) (t:TypeId) (cs:List Value),g≠b→t ≠ 5 → Row w g t cs→Row w' g t cs)):=by
 obtain ⟨i0,hi,hz0,hz1,hz2⟩:=info_parts zic;go_enter Tryz.func115,Tryz.ntmps115;go_wp2_with (go_at_call 151;refine (zdt B b bs _ h).mono ?_)
 rintro e w1 ⟨rfl,h1,hb1,hk1⟩
 obtain ⟨hB,v,hbk,hown,hne⟩:=h1;have c0:w1.cell? ⟨b,0,a⟩=some (.pointer (some ⟨b,0,a⟩)):=by rw [Lib.cell_of_heap hbk];rfl
 have c1:w1.cell? ⟨b,1,a⟩=some v:=by rw [Lib.cell_of_heap hbk];rfl
 go_wp2_with (at_builtin;refine wpList_append_own _ rfl _ _ 205 rfl B 5 i0 (E .u8 0) 1 1 Tryz.underlying205 hi hz0 hz1 hz2 rfl (by decide) _ _ _ rfl (hown.alloc _) ⟨w1.heap.size,0,a⟩ 1 1 [E .u8 c] rfl rfl ?c1 ?c2 ?c3 ?c4 ?c5 ?_)
 case c1 =>
  intro j u hj
  match j,hj with
  | 0,hj=>simp at hj;subst hj;simp [Addr.add]
 case c2=>intro u hu;simp at hu;subst hu;rfl
 case c3=>unfold maxLen;omega
 case c4=>omega
 case c5=>have:=hb1.size;simp;omega
 intro v' w2 hown' hgrow _
 have hlt:b<w1.heap.size:=by
  rcases Nat.lt_or_ge b w1.heap.size with h' | h'
  · exact h'
  · simp [Array.getElem?_eq_none h'] at hbk
 have hb2:w2.heap[b]? = some (.cells #[.pointer (some ⟨b,0,a⟩),v] 207 (0,0)):=by
  rw [hgrow.block b (by simp;omega) (fun e=>hne e.symm),Lib.alloc_old w1 _ b hlt];exact hbk
 have d0:w2.cell? ⟨b,0,a⟩=some (.pointer (some ⟨b,0,a⟩)):=by rw [Lib.cell_of_heap hb2];rfl
 have d1:w2.cell? ⟨b,1,a⟩=some v:=by rw [Lib.cell_of_heap hb2];rfl
 have f1:w2.frozen? ⟨b,1,a⟩=false:=Lib.frozen_of_heap hb2 1
 obtain ⟨g,cap,rfl⟩:∃ g cap,v' = f (some ⟨g,0,a⟩) (bs.length+1) cap:=by
  rcases hown'.2 with ⟨_,h0⟩ | ⟨g,cap,cur,hv,_⟩
  · omega
  · exact ⟨g,cap,hv⟩
 go_wp2;go_ret
 refine ⟨rfl,?_,?_,fun g t cs hg ht R => ?_⟩
 · exact Lib.BuilderAt.put (T := 207) (e := 5) hB hb2 (bs':=bs++[E .u8 c]) (by simpa using hown') (by decide)
 · exact ((hb1.alloc (by have:=hb1.size;omega) _).grown hgrow (by have:=hb1.size;simp;omega) (fun k hk=>(hown.lt k hk).1)).setCell (p:=⟨b,1,a⟩) hB _
 · have R1:=hk1 g t cs hg ht R
   refine (heap_setCell_other w2 ⟨b,1,a⟩ g _ hg).trans ?_
   rw [hgrow.block g (by have:=R1.lt;simp;omega) (fun z=>zlO hown R1 ht z.symm),heap_alloc_old w1 _ R1.lt]
   exact R1
theorem zeO (B b:Nat) (bs:List Value) (s:ByteArray) (w:World) (h:Lib.IsBuilder 207 5 B b bs w) (hlen:bs.length+s.size≤140737488355328) (hBw:B≤w.heap.size) :
 Calls G 114 #[.pointer (some ⟨b,0,a⟩),D s] w fun e w'=>e = J (.tuple #[E .i64 s.size,.nilIface])∧(Lib.BuilderAt 207 5 B b (.pointer (some ⟨b,0,a⟩)) (bs++Lib.strCells s) w'∧Below B w w'∧(∀ (g:Nat) (t:TypeId) (cs:List Value),g≠b→t ≠ 5 → Row w g t cs→Row w' g t cs)):=by
 obtain ⟨i0,hi,hz0,hz1,hz2⟩:=info_parts zic;go_enter Tryz.func114,Tryz.ntmps114;go_wp2_with (go_at_call 151;refine (zdt B b bs _ h).mono ?_)
 rintro e w1 ⟨rfl,h1,hb1,hk1⟩
 obtain ⟨hB,v,hbk,hown,hne⟩:=h1;have c0:w1.cell? ⟨b,0,a⟩=some (.pointer (some ⟨b,0,a⟩)):=by rw [Lib.cell_of_heap hbk];rfl
 have c1:w1.cell? ⟨b,1,a⟩=some v:=by rw [Lib.cell_of_heap hbk];rfl
 go_wp2_with (at_builtin;refine Lib.wpList_append_own_string _ rfl _ _ 205 9 rfl B 5 i0 Tryz.underlying205 Tryz.underlying9 hi hz0 hz1 hz2 _ _ _ rfl hown s rfl ?c3 ?c4 ?c5 ?_)
 case c3=>unfold maxLen;omega
 case c4=>omega
 case c5=>have:=hb1.size;omega
 intro v' w2 hown' hgrow _
 have hlt:b<w1.heap.size:=by
  rcases Nat.lt_or_ge b w1.heap.size with h' | h'
  · exact h'
  · simp [Array.getElem?_eq_none h'] at hbk
 have hb2:w2.heap[b]? = some (.cells #[.pointer (some ⟨b,0,a⟩),v] 207 (0,0)):=by
  rw [hgrow.block b hlt (fun e=>hne e.symm)];exact hbk
 have d0:w2.cell? ⟨b,0,a⟩=some (.pointer (some ⟨b,0,a⟩)):=by rw [Lib.cell_of_heap hb2];rfl
 have d1:w2.cell? ⟨b,1,a⟩=some v:=by rw [Lib.cell_of_heap hb2];rfl
 have f1:w2.frozen? ⟨b,1,a⟩=false:=Lib.frozen_of_heap hb2 1
 obtain ⟨ao,n',cap,rfl⟩:∃ ao n' cap,v' = f ao n' cap:=by
  rcases hown'.2 with ⟨hv,_⟩ | ⟨g,cap,cur,hv,_⟩
  · exact ⟨_,_,_,hv⟩
  · exact ⟨_,_,_,hv⟩
 go_wp2
 go_ret2
 refine ⟨rfl,?_,?_,fun g t cs hg ht R => ?_⟩
 · exact Lib.BuilderAt.put (T := 207) (e := 5) hB hb2 (bs':=bs++Lib.strCells s) (by simpa [Lib.strCells_length] using hown') (by decide)
 · exact (hb1.grown hgrow (by have:=hb1.size;omega) (fun k hk=>(hown.lt k hk).1)).setCell (p:=⟨b,1,a⟩) hB _
 · have R1:=hk1 g t cs hg ht R
   refine (heap_setCell_other w2 ⟨b,1,a⟩ g _ hg).trans ?_
   rw [hgrow.block g R1.lt (fun z=>zlO hown R1 ht z.symm)]
   exact R1
def Bw (B b n:Nat) (w:World):Prop:=∃ l:List UInt8,Lib.IsBuilder 207 5 B b (Lib.byteCells l) w∧l.length≤n
def Kp (b:Nat) (w w':World):Prop:=∀ (g:Nat) (t:TypeId) (cs:List Value),g≠b→t ≠ 5 → Row w g t cs→Row w' g t cs
theorem Kp.refl (b:Nat) (w:World):Kp b w w:=fun _ _ _ _ _ R=>R
theorem Kp.trans {b:Nat} {w w1 w2:World} (h:Kp b w w1) (k:Kp b w1 w2):Kp b w w2:=fun g t cs hg ht R=>k g t cs hg ht (h g t cs hg ht R)
theorem Kp.below {b:Nat} {w w':World} (h:Below w.heap.size w w'):Kp b w w':=fun _ _ _ _ _ R=>R.below h R.lt
def RetBw (B b n:Nat) (w w':World):Prop:=Bw B b n w'∧Kp b w w'∧Below B w w'
theorem wb_any (B b n m:Nat) (w:World) (h:Bw B b n w) (hm:n+1≤m) (hlim:m≤140737488355328) (hBw:B≤w.heap.size) :
 Calls G 115 #[.pointer (some ⟨b,0,a⟩),E .u8 32] w fun e w'=>e = J .nilIface∧RetBw B b m w w':=by
 obtain ⟨l,hb,hn⟩:=h;refine (zgb B b (Lib.byteCells l) 32 w hb (by rw [Lib.byteCells_length];omega) hBw).mono ?_
 rintro e w' ⟨rfl,h1,h2,h3⟩
 have e1:Lib.byteCells l++[E .u8 32]=Lib.byteCells (l++[32]):=by simp [Lib.byteCells]
 rw [e1] at h1;exact ⟨rfl,⟨_,.inr h1,by rw [List.length_append,List.length_singleton];omega⟩,h3,h2⟩
theorem zfo (B b n m:Nat) (s:ByteArray) (w:World) (h:Bw B b n w) (hm:n+s.size≤m) (hlim:m≤140737488355328) (hBw:B≤w.heap.size) :
 Calls G 114 #[.pointer (some ⟨b,0,a⟩),D s] w fun e w'=>e = J (.tuple #[E .i64 s.size,.nilIface])∧RetBw B b m w w':=by
 obtain ⟨l,hb,hn⟩:=h;refine (zeO B b (Lib.byteCells l) s w hb (by rw [Lib.byteCells_length];omega) hBw).mono ?_
 rintro e w' ⟨rfl,h1,h2,h3⟩
 have e1:Lib.byteCells l++Lib.strCells s=Lib.byteCells (l++s.data.toList):=by simp [Lib.byteCells,Lib.strCells]
 rw [e1] at h1;exact ⟨rfl,⟨_,.inr h1,by rw [List.length_append,Array.length_toList];exact I (Nat.add_le_add_right hn _) hm⟩,h3,h2⟩
theorem Bw.below {B b n:Nat} {w w':World} (h:Bw B b n w) (hb:Below w.heap.size w w'):Bw B b n w':=by
 have key:∀ v0 bs,Lib.BuilderAt 207 5 B b v0 bs w→Lib.BuilderAt 207 5 B b v0 bs w':=by
  rintro v0 bs ⟨h1,v,h2,h3,h4⟩
  exact ⟨h1,v,(hb.block b (Array.getElem?_eq_some_iff.1 h2).1).trans h2,zab h3 hb (M _),h4⟩
 obtain ⟨bs,h | h,hn⟩:=h
 · exact ⟨bs,.inl (key _ _ h),hn⟩
 · exact ⟨bs,.inr (key _ _ h),hn⟩
set_option maxHeartbeats 16000000
def RetS (n:Nat) (w:World) (e:Ending) (w':World):Prop:=∃ s,e = J (D s)∧s.size≤n∧Below w.heap.size w w'
theorem zfl (s:ByteArray) (q:Bool) (h:Wt s) (w:World):Calls G 116 #[O #[D s,F q]] w (RetS 122 w):=by
 have hsz:=h.1;have hb:=zaa w (C #[D s,F q] 217);have q0:(w.alloc (C #[D s,F q] 217)).cell? ⟨w.heap.size,0,a⟩=some (D s):=by simp
 have q1:(w.alloc (C #[D s,F q] 217)).cell? ⟨w.heap.size,1,a⟩=some (F q):=by simp
 have HB:=Hd hb;clear h hb;go_enter Tryz.func116,Tryz.ntmps116;go_upto_region 1 with fail
 generalize w.alloc (C #[D s,F q] 217)=W0 at *
 cases q
 · go_wp2
   go_ret
   exact ⟨s,rfl,by omega,HB.out⟩
 · go_wp2
   go_ret
   refine ⟨_,rfl,?_,HB.out⟩
   have h1:(ByteArray.mk #[34]).size=1:=rfl
   rw [ByteArray.size_append,ByteArray.size_append,h1]
   omega
def cost:Nat→Nat
 | 0=>0
 | d+1=>9000+1000*cost d
def wrF (b gk:Nat):Value := .func (.func 113) #[] #[.pointer (some ⟨b,0,a⟩),.pointer (some ⟨gk,0,a⟩)]
def RetWr (B b m:Nat) (w:World) (e:Ending) (w':World):Prop:=e = J (.tuple #[])∧RetBw B b m w w'
def zjo (d:Nat):Prop:=∀ (A:Option Addr) (n c b gk B nb:Nat) (ind:ByteArray) (S:Nat→Prop) (w:World),Rw (ItC d) 4 w S A n (List.replicate n ())→n≤1000→(∀ b,S b→b<B)→Bw B b nb w→B≤w.heap.size→B≤b→ind.size+2*d≤100→nb+n*cost d≤140737488355328 →
 Row w gk 208 [wrF b gk]→gk≠b →
 Calls G 113 #[f A n c,D ind,.pointer (some ⟨b,0,a⟩),.pointer (some ⟨gk,0,a⟩)] w (RetWr B b (nb+n*cost d) w)
theorem RetBw.trans {B b n m:Nat} {w w1 w2:World} (h:RetBw B b n w w1) (k:RetBw B b m w1 w2):RetBw B b m w w2:=⟨k.1,h.2.1.trans k.2.1,h.2.2.trans k.2.2⟩
theorem RetBw.box {B b n:Nat} {w w1 w2:World} (h:RetBw B b n w w1) (hb:Below w1.heap.size w1 w2) (hB:B≤w1.heap.size):RetBw B b n w w2:=⟨h.1.below hb,h.2.1.trans (Kp.below hb),h.2.2.trans (hb.mono hB)⟩
theorem Bw.less {B b n m:Nat} {w:World} (h:Bw B b n w) (hm:n≤m):Bw B b m w:=by
 obtain ⟨bs,h1,h2⟩:=h;exact ⟨bs,h1,I h2 hm⟩
def WrR (n B b nb q:Nat) (w:World) (i:Value) (wr:World):Prop:=∃ k:Nat,k≤n∧i = E .i64 (k:Int)∧RetBw B b (nb+k*q) w wr
theorem zkK (d:Nat) (IH:∀ d',d=d'+1→zjo d'):zjo d:=by
 intro A n c b gk B nb ind S w h hn hS hbw hBw hBb hind hlim hr hne;have HR:=Hd hr;have HN:=Hd h;have HBW:=Hd hbw;clear hr h hbw;go_enter Tryz.func113,Tryz.ntmps113;go_wp2
 go_loopw [12] (WrR n B b nb (cost d) w) (fun i _=>n-(intOf i).toNat)
 case atStart=>exact ⟨0,P _,rfl,by simpa using HBW.out,Kp.refl _ _,Below.refl _ _⟩
 case round =>
  obtain ⟨k,hkn,rfl,hrel⟩:=hrel;have HRL:=Hd hrel;have hws:=hrel.2.2.size;clear hrel
  by_cases hlt:k<n
  · obtain ⟨b0,o,cs,u,rfl,hSb,-,-,hit,hat⟩:=HN.out.at_ hlt
    cases d with
    | zero=>exact hit.elim
    | succ d =>
    obtain ⟨A1,c1,q,A2,n2,c2,ws,rfl,⟨hw1,hw2⟩,-,hwd,⟨hn2,hm2,hk2⟩,hkids⟩:=hit
    have hbB:=hS b0 hSb
    have hcell:∀ j v,[E .i64 0,f A1 ws.length c1,F q,f A2 n2 c2][j]? = some v→wr.cell? ⟨b0,o+k*4+j,a⟩=some v:=fun j v hv=>(HRL.out.2.2.cell (p:=⟨b0,o+k*4+j,a⟩) hbB).trans (hat j v hv)
    have e0:wr.cell? ⟨b0,o+k*4,a⟩=some (E .i64 0):=hcell 0 _ rfl
    have e1:=hcell 1 _ rfl
    have e2:=hcell 2 _ rfl
    have e3:=hcell 3 _ rfl
    have hki:(k:Int)<(n:Int):=by omega
    have hk0:(0:Int)≤(k:Int):=by omega
    have hbl:b0<wr.heap.size:=by omega
    have hbx:=zaa wr (C #[E .i64 0,f A1 ws.length c1,F q,f A2 n2 c2] 211)
    have R7:Row (wr.alloc (C #[E .i64 0,f A1 ws.length c1,F q,f A2 n2 c2] 211)) wr.heap.size 211 [E .i64 0,f A1 ws.length c1,F q,f A2 n2 c2]:=Row.new _ [E .i64 0,f A1 ws.length c1,F q,f A2 n2 c2] rfl
    have H4:=Hd (HRL.out.box hbx (by omega))
    have hB4:B≤(wr.alloc (C #[E .i64 0,f A1 ws.length c1,F q,f A2 n2 c2] 211)).heap.size:=by simp;omega
    have hb7:wr.heap.size≠b:=by
     obtain ⟨bs,hb,-⟩:=HRL.out.1
     have:b<wr.heap.size:=by
      rcases hb with ⟨-,v,hv,-⟩ | ⟨-,v,hv,-⟩ <;> exact (Array.getElem?_eq_some_iff.1 hv).1
     omega
    have hwid:(ws.length:Nat)≤60:=hw2
    have HWD:=Hd hwd
    have HKD:=Hd hkids
    have HR7:=Hd R7
    have hcost:nb+k*cost (d+1)+9000+1000*cost d≤140737488355328∧nb+(k+1)*cost (d+1)=nb+k*cost (d+1)+9000+1000*cost d:=by
     have h1:(k+1)*cost (d+1)≤n*cost (d+1):=Nat.mul_le_mul_right _ (by omega)
     have h2:(k+1)*cost (d+1)=k*cost (d+1)+cost (d+1):=Nat.succ_mul _ _
     have h3:cost (d+1)=9000+1000*cost d:=rfl
     omega
    obtain ⟨hco1,hco2⟩:=hcost
    generalize hNB:nb+k*cost (d+1)=NB at *
    have HCO2:=Hd hco2
    clear hco2 hNB hwd hkids hat hcell hbx R7
    go_upto_region 3 with fail
    clear e0 e1 e2 e3
    generalize wr.alloc (C #[E .i64 0,f A1 ws.length c1,F q,f A2 n2 c2] 211)=w4 at *
    go_wp2_with fail
    refine (zfo B b NB (NB+100) ind w4 H4.out.1 (by omega) (by omega) hB4).mono ?_
    rintro e w5 ⟨rfl,h5⟩
    have H5:=Hd (H4.out.trans h5)
    have HR75:=Hd (h5.2.1 _ _ _ hb7 (by decide) HR7.out)
    have hB5:B≤w5.heap.size:=I hBw H5.out.2.2.size
    have t1:=Row.cell (k:=1) (v := f A1 ws.length c1) HR75.out rfl
    clear h5
    go_wp2
    clear t1
    generalize hG7:wr.heap.size=g7 at *
    clear hG7
    go_loopw [21] (WrR ws.length B b (NB+100) 130 w5) (fun i _=>ws.length-(intOf i).toNat)
    case atStart=>exact ⟨0,P _,rfl,by simpa using H5.out.1,Kp.refl _ _,Below.refl _ _⟩
    case round =>
     obtain ⟨j,hjn,rfl,hrel⟩:=hrel
     have HRI:=Hd hrel
     have HRW:=Hd (H5.out.trans hrel)
     have hws:=HRW.out.2.2.size
     clear hrel
     by_cases hjt:j<ws.length
     · obtain ⟨b1,o1,cs1,y,hA1,hSb1,-,-,⟨rfl,hyt⟩,hat⟩:=HWD.out.at_ hjt
       subst hA1
       have hb1B:=hS b1 hSb1
       have e1:wr.cell? ⟨b1,o1+j*2,a⟩=some (D y.1):=(HRW.out.2.2.cell (p:=⟨b1,o1+j*2,a⟩) hb1B).trans (by simpa using hat 0 _ rfl)
       have e2:wr.cell? ⟨b1,o1+j*2+1,a⟩=some (F y.2):=(HRW.out.2.2.cell (p:=⟨b1,o1+j*2+1,a⟩) hb1B).trans (by simpa using hat 1 _ rfl)
       have hji:(j:Int)<(ws.length:Int):=by omega
       have hj0:(0:Int)≤(j:Int):=by omega
       have hbl1:b1<wr.heap.size:=by omega
       have hbx:=zaa wr (C #[D y.1,F y.2] 217)
       have R9:Row (wr.alloc (C #[D y.1,F y.2] 217)) wr.heap.size 217 [D y.1,F y.2]:=Row.new _ [D y.1,F y.2] rfl
       have H9:=Hd (HRI.out.box hbx (by omega))
       have hB9:B≤(wr.alloc (C #[D y.1,F y.2] 217)).heap.size:=by simp;omega
       have hb9:wr.heap.size≠b:=by
        obtain ⟨bs,hb,-⟩:=HRI.out.1
        have:b<wr.heap.size:=by
         rcases hb with ⟨-,v,hv,-⟩ | ⟨-,v,hv,-⟩ <;> exact (Array.getElem?_eq_some_iff.1 hv).1
        omega
       have HY:=Hd hyt
       have hmx:y.1.size≤maxLen:=by have:=hyt.1;unfold maxLen;omega
       have HR9:=Hd R9
       have hjw:NB+100+j*130+130≤NB+100+7800:=by omega
       clear hyt hat hbx R9
       go_upto_region 7 with fail
       clear e1 e2
       generalize wr.alloc (C #[D y.1,F y.2] 217)=w9 at *
       by_cases hjz:j=0
       · have dj:decide ((0:Int)<(j:Int))=false:=by simp;omega
         obtain ⟨t0,t1⟩:=kr2 HR9.out
         go_wp2_with fail
         refine (zfl y.1 y.2 HY.out w9).mono ?_
         rintro e wb ⟨sb,rfl,hsb,hbb⟩
         have HB2:=Hd (H9.out.box hbb hB9)
         have hBB:B≤wb.heap.size:=I hB9 hbb.size
         clear hbb t0 t1
         go_wp2_with fail
         refine (zfo B b (NB+100+j*130) (NB+100+(j+1)*130) sb wb HB2.out.1 (by omega) (by omega) hBB).mono ?_
         rintro e wc ⟨rfl,hc⟩
         have HC:=Hd (HB2.out.trans hc)
         clear hc
         go_wp2
         go_roundw
         case rel=>exact ⟨j+1,by omega,by go_num,HC.out⟩
         case measure=>simp [intOf];omega
       · have dj:decide ((0:Int)<(j:Int))=true:=by simp;omega
         go_wp2_with fail
         refine (wb_any B b (NB+100+j*130) (NB+100+j*130+1) w9 H9.out.1 (by omega) (by omega) hB9).mono ?_
         rintro e wa ⟨rfl,ha⟩
         have HA:=Hd (H9.out.trans ha)
         have HRA:=Hd (ha.2.1 _ _ _ hb9 (by decide) HR9.out)
         have hBA:B≤wa.heap.size:=I hB9 ha.2.2.size
         obtain ⟨t0,t1⟩:=kr2 HRA.out
         clear ha
         go_wp2_with fail
         refine (zfl y.1 y.2 HY.out wa).mono ?_
         rintro e wb ⟨sb,rfl,hsb,hbb⟩
         have HB2:=Hd (HA.out.box hbb hBA)
         have hBB:B≤wb.heap.size:=I hBA hbb.size
         clear hbb t0 t1
         go_wp2_with fail
         refine (zfo B b (NB+100+j*130+1) (NB+100+(j+1)*130) sb wb HB2.out.1 (by omega) (by omega) hBB).mono ?_
         rintro e wc ⟨rfl,hc⟩
         have HC:=Hd (HB2.out.trans hc)
         clear hc
         go_wp2
         go_roundw
         case rel=>exact ⟨j+1,by omega,by go_num,HC.out⟩
         case measure=>simp [intOf];omega
     · obtain rfl:j=ws.length:=by omega
       have HR6:=Hd (HRI.out.2.1 _ _ _ hb7 (by decide) HR75.out)
       have hB6:B≤wr.heap.size:=by omega
       have t2:=Row.cell (k:=2) (v := F q) HR6.out rfl
       have hnb6:NB+100+ws.length*130≤NB+7900:=by omega
       generalize hN6:NB+100+ws.length*130=N6 at *
       clear hN6
       cases q
       · go_wp2_with fail
         refine (zfo B b N6 (NB+7902) ⟨#[59,10]⟩ wr HRW.out.1 (by show N6+2≤_;omega) (by omega) hB6).mono ?_
         rintro e wd ⟨rfl,hd⟩
         have HD:=Hd (HRW.out.trans hd)
         clear hd t2
         go_wp2
         go_roundw
         case rel=>exact ⟨k+1,by omega,by go_num,HD.out.1.less (by rw [HCO2.out];omega),HD.out.2⟩
         case measure=>simp [intOf];omega
       · go_wp2_with fail
         refine (zfo B b N6 (NB+7903) ⟨#[32,123,10]⟩ wr HRW.out.1 (by show N6+3≤_;omega) (by omega) hB6).mono ?_
         rintro e wd ⟨rfl,hd⟩
         have HD:=Hd (HRW.out.trans hd)
         have HR7d:=Hd (hd.2.1 _ _ _ hb7 (by decide) HR6.out)
         have hBd:B≤wd.heap.size:=I hB6 hd.2.2.size
         have HGK:=Hd (HD.out.2.1 _ _ _ hne (by decide) HR.out)
         have t3:=Row.cell (k:=3) (v := f A2 n2 c2) HR7d.out rfl
         have tg:=Row.cell (k:=0) (v:=wrF b gk) HGK.out rfl
         unfold wrF at tg
         have hcat:¬ 9223372036854775807<ind.size+2:=by omega
         clear hd t2
         have hlim2:NB+7903+n2*cost d≤140737488355328:=by
          have h1:n2*cost d≤1000*cost d:=Nat.mul_le_mul_right _ hk2
          omega
         have hlim3:n2*cost d≤1000*cost d:=Nat.mul_le_mul_right _ hk2
         have hi2:(ind++⟨#[32,32]⟩).size+2*d≤100:=by
          have h1:(ByteArray.mk #[32,32]).size=2:=rfl
          rw [ByteArray.size_append,h1]
          omega
         have hi3:(ind++⟨#[125,10]⟩).size≤102:=by
          have h1:(ByteArray.mk #[125,10]).size=2:=rfl
          rw [ByteArray.size_append,h1]
          omega
         go_wp2_with fail
         have J6:=IH d rfl A2 n2 c2 b gk B (NB+7903) (ind++⟨#[32,32]⟩) S wd (HKD.out.mono (ItC.mono d) (fun _ z=>z) (zbc HD.out.2.2 hS)) hk2 hS HD.out.1 hBd hBb hi2 hlim2 HGK.out hne
         with_reducible refine J6.mono ?_
         rintro e wf ⟨rfl,hf⟩
         have HF:=Hd (HD.out.trans hf)
         have hBf:B≤wf.heap.size:=I hBd hf.2.2.size
         clear hf t3 tg
         go_wp2_with fail
         generalize hQ:n2*cost d=Q at *
         have J7:=zfo B b (NB+7903+Q) (NB+8005+Q) (ind++⟨#[125,10]⟩) wf HF.out.1 (by omega) (by omega) hBf
         with_reducible refine J7.mono ?_
         rintro e wg ⟨rfl,hg⟩
         have HG:=Hd (HF.out.trans hg)
         clear hg
         go_wp2
         go_roundw
         case rel=>exact ⟨k+1,by omega,by go_num,HG.out.1.less (by rw [HCO2.out];omega),HG.out.2⟩
         case measure=>simp [intOf];omega
  · obtain rfl:k=n:=by omega
    go_wp2
    go_end0
    exact ⟨rfl,HRL.out⟩
theorem zlZ:∀ d,zjo d
 | 0=>zkK 0 (fun d' h=>by omega)
 | d+1=>zkK (d+1) (fun d' h=>by obtain rfl:d=d':=by omega
                                exact zlZ d)
theorem zis (d:Nat) (S:Nat→Prop) (A:Option Addr) (n c:Nat) (w:World) (h:Rw (ItC d) 4 w S A n (List.replicate n ())) (hn:n≤1000) (hS:∀ b,S b→b<w.heap.size) (hd:d≤20) (hlim:0+n*cost d≤140737488355328) :
 Calls G 78 #[f A n c] w (RetS 140737488355328 w):=by
 have HCK:=Hd (zhb d S A n c w h (by omega) hS);have HN:=Hd h;clear h;go_enter Tryz.func78,Tryz.ntmps78;go_wp2_with fail
 refine HCK.out.mono ?_
 rintro e w1 ⟨⟨r,rfl⟩,hb1⟩
 have HB1:=Hd hb1;clear hb1
 by_cases hr:r=0
 · have dr:(r != 0)=false:=by rw [hr];rfl
   clear hr
   have hb:Below w1.heap.size w1 ((w1.alloc (C #[Value.pointer a,f a 0 0] 207)).alloc (C #[(Value.func (.func 113) #[] #[.pointer (some ⟨w1.heap.size,0,a⟩),.pointer (some ⟨w1.heap.size+1,0,a⟩)])] 208)):=(zaa w1 _).alloc (by simp) _
   have hbd:Bw w1.heap.size w1.heap.size 0 ((w1.alloc (C #[Value.pointer a,f a 0 0] 207)).alloc (C #[(Value.func (.func 113) #[] #[.pointer (some ⟨w1.heap.size,0,a⟩),.pointer (some ⟨w1.heap.size+1,0,a⟩)])] 208)):=by
    have h0:Lib.IsBuilder 207 5 w1.heap.size w1.heap.size (Lib.byteCells []) (w1.alloc (C #[Value.pointer a,f a 0 0] 207)) := .inl ⟨M _,f a 0 0,heap_alloc_new _ _,World.ownsRow_nil _ _ _ _,by simp [U]⟩
    have h1:Bw w1.heap.size w1.heap.size 0 (w1.alloc (C #[Value.pointer a,f a 0 0] 207)):=⟨[],h0,M _⟩
    exact h1.below (zaa _ _)
   have hrow:Row ((w1.alloc (C #[Value.pointer a,f a 0 0] 207)).alloc (C #[(Value.func (.func 113) #[] #[.pointer (some ⟨w1.heap.size,0,a⟩),.pointer (some ⟨w1.heap.size+1,0,a⟩)])] 208)) (w1.heap.size+1) 208 [wrF w1.heap.size (w1.heap.size+1)]:=Row.new (w1.heap.size+1) [wrF w1.heap.size (w1.heap.size+1)] (by simp)
   have hsz:w1.heap.size≤(((w1.alloc (C #[Value.pointer a,f a 0 0] 207)).alloc (C #[(Value.func (.func 113) #[] #[.pointer (some ⟨w1.heap.size,0,a⟩),.pointer (some ⟨w1.heap.size+1,0,a⟩)])] 208))).heap.size:=by simp;omega
   have HW:=Hd (zlZ d A n c w1.heap.size (w1.heap.size+1) w1.heap.size 0 ⟨#[]⟩ S ((w1.alloc (C #[Value.pointer a,f a 0 0] 207)).alloc (C #[(Value.func (.func 113) #[] #[.pointer (some ⟨w1.heap.size,0,a⟩),.pointer (some ⟨w1.heap.size+1,0,a⟩)])] 208)) (HN.out.mono (ItC.mono d) (fun _ z=>z) (zbc (HB1.out.trans (hb.mono HB1.out.size)) hS)) hn (fun b z=>V (hS b z) HB1.out.size) hbd hsz (M _) (by show 0+2*d≤100;omega) hlim hrow (by omega))
   have HB2:=Hd (HB1.out.trans (hb.mono HB1.out.size))
   have tg:(((w1.alloc (C #[Value.pointer a,f a 0 0] 207)).alloc (C #[(Value.func (.func 113) #[] #[.pointer (some ⟨w1.heap.size,0,a⟩),.pointer (some ⟨w1.heap.size+1,0,a⟩)])] 208))).cell? ⟨w1.heap.size+1,0,a⟩=some (Value.func (.func 113) #[] #[.pointer (some ⟨w1.heap.size,0,a⟩),.pointer (some ⟨w1.heap.size+1,0,a⟩)]):=Row.cell (k:=0) (v:=wrF w1.heap.size (w1.heap.size+1)) hrow rfl
   clear hb hbd hrow
   go_upto_region 6 with fail
   generalize ((w1.alloc (C #[Value.pointer a,f a 0 0] 207)).alloc (C #[(Value.func (.func 113) #[] #[.pointer (some ⟨w1.heap.size,0,a⟩),.pointer (some ⟨w1.heap.size+1,0,a⟩)])] 208))=W2 at *
   go_wp2_with fail
   with_reducible refine HW.out.mono ?_
   rintro e w3 ⟨rfl,⟨l,hl1,hl2⟩,-,hb3⟩
   have hs3:w1.heap.size≤w3.heap.size:=I hsz hb3.size
   have HB3:=Hd (HB2.out.trans (hb3.mono HB1.out.size))
   clear tg hb3
   go_wp2_with fail
   refine (Tryz.Builder_String_any w1.heap.size w1.heap.size l w3 hl1 hs3).mono ?_
   rintro e w4 ⟨rfl,hb4⟩
   have HB4:=Hd (HB3.out.trans (hb4.mono HB1.out.size))
   have hsl:(ByteArray.mk l.toArray).size≤140737488355328:=by
    show l.toArray.size≤_
    rw [List.size_toArray]
    omega
   clear hl1 hb4
   go_wp2
   go_ret
   exact ⟨_,rfl,hsl,HB4.out⟩
 · have dr:(r != 0)=true:=by rw [bne_iff_ne];exact hr
   go_wp2
   go_ret
   exact ⟨_,rfl,by decide,HB1.out⟩
def RetU (w:World) (e:Ending) (w':World):Prop:=∃ n:Int,(0≤n∧n≤4294967295)∧e = J (E .u32 n)∧Below w.heap.size w w'
def DgR (L:Nat) (w1:World) (v i:Value) (wr:World):Prop:=∃ (k:Nat) (s:Int),k≤L∧i = E .i64 (k:Int)∧v = E .u32 s∧(0≤s∧s≤4294967295)∧wr=w1
theorem ziI (nm:ByteArray) (A1 A2 A3 A4 A5:Option Addr) (n1 n2 n3 n4 n5 c1 c2 c3 c4 c5:Nat) (w:World)
 (HS:∀ W',Below w.heap.size w W'→Calls G 38 #[O #[D nm,f A1 n1 c1,f A2 n2 c2,f A3 n3 c3,f A4 n4 c4,f A5 n5 c5]] W' (RetS 140737488355328 W')):Calls G 19 #[O #[D nm,f A1 n1 c1,f A2 n2 c2,f A3 n3 c3,f A4 n4 c4,f A5 n5 c5]] w (RetU w):=by
 have hb:=zaa w (C #[D nm,f A1 n1 c1,f A2 n2 c2,f A3 n3 c3,f A4 n4 c4,f A5 n5 c5] 30);have HSV:=Hd (HS _ hb);have HB:=Hd hb;clear HS;go_enter Tryz.func19,Tryz.ntmps19;go_wp2_with fail
 refine HSV.out.mono ?_
 rintro e w1 ⟨s,rfl,hsz,hb1⟩
 have HB1:=Hd (HB.out.trans (hb1.mono HB.out.size));have hmx:s.size≤maxLen:=by unfold maxLen;omega
 clear hb hb1;go_wp2
 go_loopw [4,11] (DgR s.size w1) (fun _ i _=>s.size-(intOf i).toNat)
 case atStart=>exact ⟨0,4294967295,P _,rfl,rfl,by omega,rfl⟩
 case round =>
  obtain ⟨k,sm,hk,rfl,rfl,hs,rfl⟩:=hrel
  by_cases hlt:k<s.size
  · have hki:(k:Int)<(s.size:Int):=by omega
    have hk0:(0:Int)≤(k:Int):=by omega
    go_wp2
    go_loopw [4,20] (DgR 8 wr) (fun _ i _=>8-(intOf i).toNat)
    case atStart=>exact ⟨0,_,P _,rfl,rfl,bits_within .xor .u32 _ _,rfl⟩
    case round =>
     obtain ⟨j,sj,hj,rfl,rfl,⟨hs0,hs1⟩,rfl⟩:=hrel
     by_cases hjt:j<8
     · have hji:(j:Int)<8:=by omega
       by_cases hz:bits .and .u32 sj 1=0
       · have dz:(bits .and .u32 sj 1 != 0)=false:=by rw [hz];rfl
         go_wp2
         go_roundw
         case rel=>exact ⟨j+1,_,by omega,by go_num,rfl,by omega,rfl⟩
         case measure=>simp [intOf];omega
       · have dz:(bits .and .u32 sj 1 != 0)=true:=by rw [bne_iff_ne];exact hz
         go_wp2
         go_roundw
         case rel=>exact ⟨j+1,_,by omega,by go_num,rfl,bits_within .xor .u32 _ _,rfl⟩
         case measure=>simp [intOf];omega
     · obtain rfl:j=8:=by omega
       go_wp2
       go_roundw
       case rel=>exact ⟨k+1,sj,by omega,by go_num,rfl,⟨hs0,hs1⟩,rfl⟩
       case measure=>simp [intOf];omega
  · obtain rfl:k=s.size:=by omega
    go_wp2
    go_ret
    exact ⟨_,bits_within .xor .u32 _ _,rfl,HB1.out⟩
set_option maxHeartbeats 32000000
theorem zmt (B:Nat) (p:StAt) (S:StatM) (A:Option Addr) (cc:Nat) (xs:List RelayX) (w:World) (hB:B≤w.heap.size) (T:Tab w) (h:ConfX w B p S A cc xs) (hn:zaH (zap xs)) (hF:CfgF S xs) :
 Calls G 38 #[O #[D S.name,f p.A1 S.buses.length p.c1,f p.A2 S.lines.length p.c2,f p.A3 S.sources.length p.c3,f p.A4 S.bays.length p.c4,f A xs.length cc]] w (RetS 140737488355328 w):=by
 obtain ⟨j0,hi,hz0,hz1,hz2⟩:=info_parts zcK;have HTJ:=Hd (And.intro hi (And.intro hz0 (And.intro hz1 hz2)));clear hi hz0 hz1 hz2;have hx20:xs.length≤20:=by have:=hn.1;rw [zaL] at this;exact this
 have hb:=zaa w (C #[D S.name,f p.A1 S.buses.length p.c1,f p.A2 S.lines.length p.c2,f p.A3 S.sources.length p.c3,f p.A4 S.bays.length p.c4,f A xs.length cc] 30);have R0:Row (w.alloc (C #[D S.name,f p.A1 S.buses.length p.c1,f p.A2 S.lines.length p.c2,f p.A3 S.sources.length p.c3,f p.A4 S.bays.length p.c4,f A xs.length cc] 30)) w.heap.size 30 [D S.name,f p.A1 S.buses.length p.c1,f p.A2 S.lines.length p.c2,f p.A3 S.sources.length p.c3,f p.A4 S.bays.length p.c4,f A xs.length cc]:=Row.new w.heap.size [D S.name,f p.A1 S.buses.length p.c1,f p.A2 S.lines.length p.c2,f p.A3 S.sources.length p.c3,f p.A4 S.bays.length p.c4,f A xs.length cc] rfl;obtain ⟨q0,q1,q2,q3,q4,q5⟩:=kr6 R0;generalize hP1:p.A1=P1 at *;have HP1:=Hd hP1;clear hP1;generalize hP2:p.A2=P2 at *;have HP2:=Hd hP2;clear hP2;generalize hP3:p.A3=P3 at *;have HP3:=Hd hP3;clear hP3;generalize hP4:p.A4=P4 at *;have HP4:=Hd hP4;clear hP4;have l0:=R0.lt;have H:=Hd h;have HF:=Hd hF;have HN:=Hd hn;have HT:=Hd T;have HB:=Hd hb;clear h hF hn T hb R0;go_enter Tryz.func38,Tryz.ntmps38;go_upto_region 1 with fail
 generalize w.alloc (C #[D S.name,f P1 S.buses.length p.c1,f P2 S.lines.length p.c2,f P3 S.sources.length p.c3,f P4 S.bays.length p.c4,f A xs.length cc] 30)=W0 at *;have HCK:=zeM B p S A cc xs W0 (I hB HB.out.size) (H.out.mono (M _) (HB.out.mono hB)) HN.out HF.out;rw [HP1.out,HP2.out,HP3.out,HP4.out] at HCK;go_wp2_with fail
 refine HCK.mono ?_
 rintro e w1 ⟨rfl,hb1⟩
 clear HCK;have h01:=HB.out.trans (hb1.mono HB.out.size);have l1:=V l0 hb1.size;obtain ⟨r0,r1,r2,r3,r4,r5⟩:=kb6 hb1 l0 ⟨q0,q1,q2,q3,q4,q5⟩;clear q0 q1 q2 q3 q4 q5 hb1;have hs1:=h01.size
 have HSE:=Hd (show ∀ W',Below w1.heap.size w1 W'→Calls G 79 #[O #[D S.name,f P1 S.buses.length p.c1,f P2 S.lines.length p.c2,f P3 S.sources.length p.c3,f P4 S.bays.length p.c4]] W' (zh0 40 W') from fun W' hW=>by
  have hb:=h01.trans (hW.mono hs1);have h:=zd9 B p S W' (I hB hb.size) (HT.out.below hb HT.out.2) (H.out.st.mono (M _) (hb.mono hB)) HF.out.st;rw [HP1.out,HP2.out,HP3.out,HP4.out] at h;exact h)
 have HRE:=Hd (show ∀ W',Below w1.heap.size w1 W'→Calls G 80 #[O #[D S.name,f P1 S.buses.length p.c1,f P2 S.lines.length p.c2,f P3 S.sources.length p.c3,f P4 S.bays.length p.c4],f A xs.length cc] W' (zh0 20 W') from fun W' hW=>by
  have hb:=h01.trans (hW.mono hs1);have h:=zdV B p S A cc xs W' (I hB hb.size) (HT.out.below hb HT.out.2) (H.out.mono (M _) (hb.mono hB)) HF.out.st HF.out.rels hx20;rw [HP1.out,HP2.out,HP3.out,HP4.out] at h;exact h)
 go_upto_region 3 with fail
 refine zau (fun w'=>KB (fun _=>False) w1 w') (fun w'=>Below w1.heap.size w1 w') 9 (by kernel_rfl) ?_
 obtain ⟨wx,hwd0⟩:∃ x,x=w1.drew:=⟨_,rfl⟩;have hS:KB (fun _=>False) w1 wx:=by rw [hwd0];exact (KB.refl _ _).drew
 have hC:Below w1.heap.size w1 wx:=by rw [hwd0];exact (Below.refl _ _).drew
 rw [← hwd0];clear hwd0;have hz:=hC.size;have hCC:=hC;refine zam 0 rfl hS (fun _=>hCC) ?_
 refine zaS 1 ?_ rfl hS (fun _=>hCC) ?yld ?_
 case yld=>(intro wq hSw;have e0:=(hSw.cell (o:=0) l1 (fun z=>z)).trans r0;have e1:=(hSw.cell (o:=1) l1 (fun z=>z)).trans r1;have e2:=(hSw.cell (o:=2) l1 (fun z=>z)).trans r2;have e3:=(hSw.cell (o:=3) l1 (fun z=>z)).trans r3;have e4:=(hSw.cell (o:=4) l1 (fun z=>z)).trans r4;go_simp <;> with_reducible rfl)
 refine zam 3 rfl hS (fun _=>hCC) ?_
 refine zaS 4 ?_ rfl hS (fun _=>hCC) ?yld ?_
 case yld=>(intro wq hSw;have e0:=(hSw.cell (o:=0) l1 (fun z=>z)).trans r0;have e1:=(hSw.cell (o:=1) l1 (fun z=>z)).trans r1;have e2:=(hSw.cell (o:=2) l1 (fun z=>z)).trans r2;have e3:=(hSw.cell (o:=3) l1 (fun z=>z)).trans r3;have e4:=(hSw.cell (o:=4) l1 (fun z=>z)).trans r4;go_simp <;> with_reducible rfl)
 refine zam 5 rfl hS (fun _=>hCC) ?_
 refine zaS 6 ?_ rfl hS (fun _=>hCC) ?yld ?_
 case yld=>(intro wq hSw;have e5:=(hSw.cell (o:=5) l1 (fun z=>z)).trans r5;go_simp <;> with_reducible rfl)
 refine zad (rs:=[2]) (by kernel_rfl) (by simp) ?_
 refine AllReadyT.cons (i:=2) rfl (fun K hK => ?_) ?_
 · skip
   go_simp
   go_at_call 79
   (with_reducible refine (HSE.out _ hC).mono ?_)
   rintro e wa ⟨An,cn,its1,rfl,hlim1,hcap1,hg1,hb1⟩
   have hC1:=hC.trans (hb1.mono hC.size)
   go_wp2_with fail
   refine hK.out _ _ (KB.of_below hC1) (fun _=>hC1) (fun hS hCC => ?_)
   have hCC:=hCC rfl
   have hC:=hCC
   clear hK K
   have HG1:=Hd hg1
   have hz1:=hb1.size
   have HN1:=Hd (show ∀ b,(f An its1.length cn).ownBlock=some b→wx.heap.size≤b∧b<wa.heap.size from fun b q=>hg1.own.lt b q)
   clear hg1 hb1 hC1
   refine zad (rs:=[7]) (by kernel_rfl) (by simp) ?_
   refine AllReadyT.cons (i:=7) rfl (fun K hK => ?_) ?_
   · skip
     go_simp
     go_at_call 80
     (with_reducible refine (HRE.out _ hC).mono ?_)
     rintro e wb ⟨Al,cl,its2,rfl,hlim2,hcap2,hg2,hb2⟩
     have hC1:=hC.trans (hb2.mono hC.size)
     go_wp2_with fail
     refine hK.out _ _ (KB.of_below hC1) (fun _=>hC1) (fun hS hCC => ?_)
     have hCC:=hCC rfl
     have hC:=hCC
     clear hK K
     have HG1:=Hd (HG1.out.below hb2 (M _))
     have HG2:=Hd hg2
     have hz2:=hb2.size
     clear hg2 hb2 hC1
     refine zad (rs:=[8]) (by kernel_rfl) (by simp) ?_
     refine AllReadyT.cons (i:=8) rfl (fun K hK => ?_) ?_
     · skip
       refine zai (w:=wb) _ _ 173 rfl rfl Tryz.underlying173 HTJ.out.1 HTJ.out.2.1 HTJ.out.2.2.1 HTJ.out.2.2.2 rfl (by decide) rfl HG1.out.own rfl (by have h:=HG2.out.own;exact Src.of_own h) (zet HG2.out.each) (by unfold maxLen;omega) (by omega) (by omega) ?_
       intro v9 w9 hown9 hg9 hv9
       have hC1:=hC.trans (zaC hg9 hC.size fun q hq=>by have:=(HG1.out.own.lt q hq).1;omega)
       have hg3:=HG1.out.more (cs:=its2) (W:=wb) (M _) (fun _ _=>rfl) hg9 hv9 hown9 (fun c hc=>ItC.mono 2 _ _ _ _ _ _ (fun b q=>⟨by have:=q.1;omega,q.2.1,fun z=>by have:=(HN1.out b z).2;have:=q.1;omega,fun z=>z⟩) (KeepOn.refl _ _) (HG2.out.each c hc))
       obtain ⟨A9,c9,hv9e,hcl9,hcm9⟩:=zac hown9
       subst hv9e
       refine hK.out _ _ (KB.of_below hC1) (fun _=>hC1) (fun hS hCC => ?_)
       have hCC:=hCC rfl
       have hC:=hCC
       clear hK K
       have HG3:=Hd hg3
       clear hown9 hg9 hv9 hg3 hC1
       refine zad (rs:=[9]) (by kernel_rfl) (by simp) ?_
       refine AllReadyT.cons (i:=9) rfl (fun K hK => ?_) ?_
       · skip
         go_simp
         go_at_call 78
         (with_reducible refine (zis 2 (fun b=>b<w9.heap.size) A9 (its1.length+its2.length) c9 w9 (HG3.out.rw (by simp) (fun b _ h2 _=>h2)) (by omega) (fun b h=>h) (by decide) (by simp only [cost];omega)).mono ?_)
         rintro e wf ⟨s,rfl,hs,hbf⟩
         have HBF:=Hd (h01.trans ((hC.mono hs1).trans (hbf.mono (by have:=hC.size;omega))))
         go_wp2_with fail
         refine hK.out _ _ (KB.of_below (hC.trans (hbf.mono hC.size))) (fun q=>Bool.noConfusion (show true=false from q)) (fun hS hCC => ?_)
         clear hK K
         refine zam 10 rfl hS (fun q=>Bool.noConfusion (show true=false from q)) ?_
         refine zaR (by kernel_rfl) ?_ _
         go_wp2
         go_ret
         exact ⟨s,rfl,hs,HBF.out⟩
       exact AllReadyT.nil
     exact AllReadyT.nil
   exact AllReadyT.nil
 exact AllReadyT.nil
theorem zjF (B:Nat) (p:StAt) (S:StatM) (A:Option Addr) (cc:Nat) (xs:List RelayX) (w:World) (hB:B≤w.heap.size) (T:Tab w) (h:ConfX w B p S A cc xs) (hn:zaH (zap xs)) (hF:CfgF S xs) :
 Calls G 19 #[O #[D S.name,f p.A1 S.buses.length p.c1,f p.A2 S.lines.length p.c2,f p.A3 S.sources.length p.c3,f p.A4 S.bays.length p.c4,f A xs.length cc]] w (RetU w):=
 ziI S.name p.A1 p.A2 p.A3 p.A4 A _ _ _ _ _ _ _ _ _ _ w fun W' hW=>zmt B p S A cc xs W' (I hB hW.size) (T.below hW T.2) (h.mono (M _) (hW.mono hB)) hn hF
end Go.Proofs.YtjkimieapfbhbaaGreatDoor
