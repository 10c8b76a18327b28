/-
 Numbers as words: strconv.Itoa; digits of the settings.
-/
import Derived.Test.YtjkimieapfbhbaaGreatDoorKYb
import Derived.Test.YtjkimieapfbhbaaGreatDoorShelf
import Derived.Lib.LaidTab
import Derived.Test.YtjkimieapfbhbaaGreatDoorKSnP
import Derived.DeepKeys5
import Derived.Test.YtjkimieapfbhbaaGreatDoorKDup
set_option maxRecDepth 100000
set_option maxHeartbeats 8000000
open Option renaming none → E
open Go.Value renaming int → G, slice → J, string → L
open Go.IntKind renaming i64 → I
open Nat renaming le_refl → M, lt_of_lt_of_le → U, zero_le → V
open Go.Obj renaming cells → O
open Go.Proofs.Tryz renaming prog → Q
open Go.RowKit.Below renaming refl → R
open And renaming intro → Y
open List renaming length_append → Z, length_map → ja, length_cons → jb
namespace Go.Proofs.YtjkimieapfbhbaaGreatDoor
open Go.RowKit
def Tab (w:World):Prop:=Lib.TabIs Q w "internal/strconv.uint64pow10" .u64 Lib.pow10Tab ∧ 0 < w.heap.size
theorem zeu : Tryz.prog.globalNamed "internal/strconv.uint64pow10" = some 0:=by kernel_rfl
theorem Tab.keep {w w':World} (h:Tab w) (hs:w.heap.size≤w'.heap.size) (hb:∀ b,b = 0 → w'.heap[b]? = w.heap[b]?):Tab w':=by
 refine ⟨?_,U h.2 hs⟩
 have h1:=h.1;unfold Lib.TabIs World.var? at *;rw [zeu] at *;simp only [Option.bind_some] at *;rw [hb _ rfl];exact h1
theorem Tab.below {w w':World} {B:Nat} (h:Tab w) (hb:Below B w w') (hB : 0 < B):Tab w':=h.keep hb.size fun b e=>hb.block b (by omega)
def I64 (n:Int):Prop := -9223372036854775808≤n∧n≤9223372036854775807
theorem zcI:∀ (k u:Nat),u<10 ^ (k+1)→(Lib.decDigits u).length≤k+1
 | 0,u,h=>by rw [Lib.decDigits];rw [dif_pos (by simpa using h)];simp
 | k+1,u,h=>by
   rw [Lib.decDigits]
   split
   · simp
   · rw [Z,List.length_singleton]
     have:=zcI k (u / 10) (by rw [Nat.pow_succ] at h;omega)
     omega
theorem zce:∀ (k u:Nat),u<10 ^ (k+1)→∀ c∈Lib.decDigits u,c.toNat<128
 | 0,u,h,c,hc=>by
   rw [Lib.decDigits,dif_pos (by simpa using h)] at hc
   have:u<10:=by simpa using h
   simp at hc
   subst hc
   simp
   omega
 | k+1,u,h,c,hc=>by
   rw [Lib.decDigits] at hc
   split at hc
   · rename_i q
     simp at hc
     subst hc
     simp
     omega
   · rcases List.mem_append.1 hc with hc | hc
     · exact zce k (u / 10) (by rw [Nat.pow_succ] at h;omega) c hc
     · simp at hc
       subst hc
       simp
       omega
theorem zmk (n:Int) (h:I64 n):Wt ⟨(Lib.itoa n).toArray⟩:=by
 have key:(Lib.itoa n).length≤120∧∀ c∈Lib.itoa n,c.toNat<128:=by
  unfold Lib.itoa;obtain ⟨h1,h2⟩:=h
  split
  · have a:=zcI 19 n.natAbs (by omega)
    refine ⟨by rw [jb];omega,fun c hc => ?_⟩
    rcases List.mem_cons.1 hc with rfl | hc
    · decide
    · exact zce 19 n.natAbs (by omega) c hc
  · have a:=zcI 19 n.toNat (by omega)
    exact ⟨by omega,zce 19 n.toNat (by omega)⟩
 refine ⟨by simpa [ByteArray.size] using key.1,fun k c hc=>key.2 c ?_⟩
 have:=Array.mem_of_getElem? hc;simpa using this
theorem zhj (w:World) (k:Nat) (os:Array Obj):Below w.heap.size w (Go.Sort.grow (w.drewN k) os):=
 ⟨rfl,rfl,rfl,by show w.heap.size≤(w.heap++os).size;simp,fun j hj=>by show (w.heap++os)[j]? = w.heap[j]?;rw [Array.getElem?_append_left hj]⟩
def RetWt (w:World) (e:Ending) (w':World):Prop:=∃ s,e = .returned (L s)∧Wt s∧Below w.heap.size w w'
theorem zcg (n:Int) (h:I64 n) (w:World) (T:Tab w):Calls Q 120 #[G I n] w (RetWt w):=by
 refine (Tryz.strconv_Itoa n h.1 h.2 w T.1).mono ?_
 rintro e w' ⟨rfl,k,os,rfl⟩
 exact ⟨_,rfl,zmk n h,zhj w k os⟩
def IntW (_:World) (_:Nat→Prop) (cs:List Value) (n:Int):Prop:=cs=[G I n]∧I64 n
theorem IntW.mono:zdj IntW:=fun _ _ _ _ _ _ _ _ h=>h
def zeP (n:Nat) (w:World) (e:Ending) (w':World):Prop:=
 ∃ A c,∃ ss:List ByteArray,e = .returned (J A n c)∧ss.length=n∧(n≤c∧c≤maxLen)∧(∀ s∈ss,Wt s)∧w'.ownsRow w.heap.size 9 1 (J A n c) n (ss.map L)∧Below w.heap.size w w'
def DigR (N m:Nat) (w:World) (v i:Value) (wr:World):Prop:=∃ k,∃ ss:List ByteArray,k≤N∧i = G I (k:Int)∧ss.length=m*k∧(∀ s∈ss,Wt s)∧wr.ownsRow w.heap.size 9 1 v (m*k) (ss.map L)∧Below w.heap.size w wr
theorem zgs (S:Nat→Prop) (A:Option Addr) (c:Nat) (ns:List Int) (w:World) (T:Tab w) (h:Rw IntW 1 w S A ns.length ns) (hl:ns.length≤40) (hS:∀ b,S b→b<w.heap.size) :
 Calls Q 155 #[J A ns.length c] w (zeP ns.length w):=by
 obtain ⟨i0,hi,hz0,hz1,hz2⟩:=info_parts zbn;have HTI:=Hd (Y hi (Y hz0 (Y hz1 hz2)));have HT:=Hd T;clear hi hz0 hz1 hz2 T;go_enter Tryz.func155,Tryz.ntmps155;go_wp2
 go_loopw [3,8] (DigR ns.length 1 w) (fun _ i _=>ns.length-(intOf i).toNat)
 case atStart=>exact ⟨0,[],V _,rfl,rfl,by simp,World.ownsRow_nil _ _ _ _,R _ _⟩
 case round =>
  obtain ⟨k,ss,hk,rfl,hss,hwt,hown,hbel⟩:=hrel;have hs:=hbel.size;have HSS:=Hd hss;have HWT:=Hd hwt;have HB:=Hd hbel;rw [Nat.one_mul] at hown;clear hss hwt hbel
  by_cases hlt:k<ns.length
  · obtain ⟨b,o,cs,x,hA,hSb,hx,-,⟨rfl,hi64⟩,hat⟩:=h.at_ hlt
    subst hA
    have hbw:b<w.heap.size:=hS b hSb
    have c0:wr.cell? ⟨b,o+k,E⟩=some (G I x):=(HB.out.cell (p:=⟨b,o+k,E⟩) hbw).trans (by simpa using hat 0 _ rfl)
    have hki:(k:Int)<(ns.length:Int):=by omega
    have hk0:(0:Int)≤(k:Int):=by omega
    have hbl:b<wr.heap.size:=by omega
    obtain ⟨AV,cV,rfl,-,-⟩:=zac hown
    have HO:=Hd hown
    have HC:=Hd (zcg x hi64 wr (HT.out.below HB.out HT.out.2))
    clear hown hx hi64 hat
    go_wp2_with fail
    refine HC.out.mono ?_
    rintro e w1 ⟨s,rfl,hs1,hb1⟩
    have HW1:=Hd hs1
    have HB1:=Hd hb1
    have HO1:=Hd (zab HO.out hb1 (M _))
    have hsz:=hb1.size
    clear hs1 hb1
    go_wp2_with (at_builtin;refine zaK _ _ 22 (w1:=w1) rfl rfl Tryz.underlying22 HTI.out.1 HTI.out.2.1 HTI.out.2.2.1 HTI.out.2.2.2 rfl (by decide) rfl HO1.out (R _ _) _ rfl rfl rfl (by simp [Value.oneCell']) (by omega) (by unfold maxLen;omega) (by omega) ?_)
    intro v' w' hown' hb' hsz'
    have HO':=Hd hown'
    have HB':=Hd hb'
    clear hown' hb'
    go_wp2
    go_roundw
    case rel =>
     refine ⟨k+1,ss++[s],by omega,by go_num,by simp [HSS.out],?_,?_,?_⟩
     · intro y hy
       rcases List.mem_append.1 hy with hy | hy
       · exact HWT.out y hy
       · simp at hy
         subst hy
         exact HW1.out
     · rw [Nat.one_mul]
       simpa using HO'.out
     · exact (HB.out.trans (HB1.out.mono hs)).trans HB'.out
    case measure=>simp [intOf];omega
  · obtain rfl:k=ns.length:=by omega
    obtain ⟨AV,cV,rfl,hc1,hc2⟩:=zac hown
    have HO:=Hd hown
    clear hown
    go_wp2
    go_ret
    exact ⟨AV,cV,ss,rfl,by have:=HSS.out;omega,⟨hc1,hc2⟩,HWT.out,HO.out,HB.out⟩
theorem Tab.drew {w:World} (h:Tab w):Tab w.drew:=h.keep (M _) fun _ _=>rfl
def ImpW (_:World) (_:Nat→Prop) (cs:List Value) (n:Int × Int):Prop:=cs=[G I n.1,G I n.2]∧I64 n.1∧I64 n.2
theorem ImpW.mono:zdj ImpW:=fun _ _ _ _ _ _ _ _ h=>h
theorem zhA (S:Nat→Prop) (A:Option Addr) (c:Nat) (ns:List (Int × Int)) (w:World) (T:Tab w) (h:Rw ImpW 2 w S A ns.length ns) (hl:ns.length≤20) (hS:∀ b,S b→b<w.heap.size) :
 Calls Q 119 #[J A ns.length c] w (zeP (2*ns.length) w):=by
 obtain ⟨i0,hi,hz0,hz1,hz2⟩:=info_parts zbn;have HTI:=Hd (Y hi (Y hz0 (Y hz1 hz2)));have HT:=Hd T;clear hi hz0 hz1 hz2 T;go_enter Tryz.func119,Tryz.ntmps119;go_wp2
 go_loopw [3,8] (DigR ns.length 2 w) (fun _ i _=>ns.length-(intOf i).toNat)
 case atStart=>exact ⟨0,[],V _,rfl,rfl,by simp,World.ownsRow_nil _ _ _ _,R _ _⟩
 case round =>
  obtain ⟨k,ss,hk,rfl,hss,hwt,hown,hbel⟩:=hrel;have hs:=hbel.size;have HSS:=Hd hss;have HWT:=Hd hwt;have HB:=Hd hbel;clear hss hwt hbel
  by_cases hlt:k<ns.length
  · obtain ⟨b,o,cs,x,hA,hSb,hx,-,⟨rfl,hi1,hi2⟩,hat⟩:=h.at_ hlt
    subst hA
    have hbw:b<w.heap.size:=hS b hSb
    have c0:wr.cell? ⟨b,o+k*2,E⟩=some (G I x.1):=(HB.out.cell (p:=⟨b,o+k*2,E⟩) hbw).trans (by simpa using hat 0 _ rfl)
    have c1:wr.cell? ⟨b,o+k*2+1,E⟩=some (G I x.2):=(HB.out.cell (p:=⟨b,o+k*2+1,E⟩) hbw).trans (by simpa using hat 1 _ rfl)
    have hki:(k:Int)<(ns.length:Int):=by omega
    have hk0:(0:Int)≤(k:Int):=by omega
    have hbl:b<wr.heap.size:=by omega
    generalize hN:2*k=N at *
    have hNk:N≤40:=by omega
    have HN:=Hd hN
    clear hN
    obtain ⟨AV,cV,rfl,-,-⟩:=zac hown
    have R5:Row (wr.alloc (O #[G I x.1,G I x.2] 110)) wr.heap.size 110 [G I x.1,G I x.2]:=Row.new _ [G I x.1,G I x.2] rfl
    obtain ⟨d0,d1⟩:=kr2 R5
    have l5:=R5.lt
    have HO:=Hd (hown.alloc (O #[G I x.1,G I x.2] 110))
    have HB4:=Hd (HB.out.alloc hs (O #[G I x.1,G I x.2] 110))
    have HC1:=Hd (fun W (TW:Tab W)=>zcg x.1 hi1 W TW)
    have HC2:=Hd (fun W (TW:Tab W)=>zcg x.2 hi2 W TW)
    clear hown hx hi1 hi2 hat R5
    go_upto_region 5 with fail
    clear c0 c1
    generalize wr.alloc (O #[G I x.1,G I x.2] 110)=w4 at *
    have HT4:=Hd (HT.out.below HB4.out HT.out.2)
    have hs4:=HB4.out.size
    generalize x.1=x1 at *
    generalize x.2=x2 at *
    go_region_law (first
     | ((refine zai (o:=⟨some 20,_,_,_,_,_⟩) (w:=w7.alloc (O #[L s6,L s7] 9)) _ _ 22 rfl rfl Tryz.underlying22 HTI.out.1 HTI.out.2.1 HTI.out.2.2.1 HTI.out.2.2.2 rfl (by decide) rfl HOW7.out rfl HSR7.out (by simp [Value.oneCell']) (by unfold maxLen;omega) (by omega) (by simp;omega) ?_;intro v8' w8 hown8 hg8 hv8;obtain ⟨A8,k8,hv8e,-,-⟩:=zac hown8;have HO8:=Hd hown8;have HG8:=Hd hg8;clear hown8 hg8 hv8;subst hv8e))
     | ((go_simp;go_at_call 120;(with_reducible refine (HC1.out _ (HT4.out.drew)).mono ?_);rintro e w6 ⟨s6,rfl,hw6,hb6⟩;have HW6:=Hd hw6;have HB6:=Hd (show Below w4.heap.size w4 w6 from (R _ w4).drew.trans hb6);have HT6:=Hd (HT4.out.below HB6.out (U HT.out.2 hs4));have y0:=(hb6.cell (p:=⟨wr.heap.size,0,E⟩) l5).trans d0;have y1:=(hb6.cell (p:=⟨wr.heap.size,1,E⟩) l5).trans d1;have hs6:w4.heap.size≤w6.heap.size:=HB6.out.size;clear hw6 hb6))
     | ((go_simp;go_at_call 120;(with_reducible refine (HC2.out _ (HT6.out)).mono ?_);rintro e w7 ⟨s7,rfl,hw7,hb7⟩;have HW7:=Hd hw7;have HB7:=Hd (HB6.out.trans (hb7.mono hs6));have z0:=(hb7.cell (p:=⟨wr.heap.size,0,E⟩) (U l5 hs6)).trans y0;have z1:=(hb7.cell (p:=⟨wr.heap.size,1,E⟩) (U l5 hs6)).trans y1;have hs7:w4.heap.size≤w7.heap.size:=HB7.out.size;have HOW7:=Hd ((zab HO.out HB7.out (M _)).alloc (O #[L s6,L s7] 9));have HSR7:=Hd (za5 w7 [L s6,L s7] 9 1 2 rfl);clear hw7 hb7)))
    all_goals
     go_wp2
     go_roundw
     case rel =>
      refine ⟨k+1,ss++[s6,s7],by omega,by go_num,by have:=HN.out;rw [Z,HSS.out];simp;omega,?_,?_,?_⟩
      · intro y hy
        rcases List.mem_append.1 hy with hy | hy
        · exact HWT.out y hy
        · simp at hy
          rcases hy with rfl | rfl
          · exact HW6.out
          · exact HW7.out
      · rw [show 2*(k+1)=N+2 by have:=HN.out;omega]
        simpa using HO8.out
      · exact ((HB4.out.trans (HB7.out.mono hs4)).alloc (by omega) _).trans (zaC HG8.out (by simp;omega) fun q hq=>(HOW7.out.lt q hq).1)
     case measure=>simp [intOf];omega
  · obtain rfl:k=ns.length:=by omega
    obtain ⟨AV,cV,rfl,hc1,hc2⟩:=zac hown
    have HO:=Hd hown
    clear hown
    go_wp2
    go_ret
    exact ⟨AV,cV,ss,rfl,HSS.out,⟨hc1,hc2⟩,HWT.out,HO.out,HB.out⟩
theorem zcK:(Tryz.prog.info? 211).map (fun i=>(i.zero,i.size,i.bytes))=some (some (.agg #[G I 0,J E 0 0,.bool false,J E 0 0]),4,64):=by kernel_rfl
def Fin (base:Nat) (w:World) (v:Value) (X:Nat→Prop) (b:Nat):Prop:=base≤b∧b<w.heap.size∧v.ownBlock≠some b∧¬ X b
structure Grows (d:Nat) (X:Nat→Prop) (base:Nat) (w:World) (v:Value) (its:List (List Value)):Prop where
 own:w.ownsRow base 211 4 v its.length its.flatten
 each:∀ c∈its,ItC d w (Fin base w v X) c ()
 nx:∀ b,v.ownBlock=some b→¬ X b
 xl:∀ b,X b→b<w.heap.size
 lo:base≤w.heap.size
theorem Grows.nil {d:Nat} {X:Nat→Prop} {base:Nat} {w:World} (hx:∀ b,X b→b<w.heap.size) (lo:base≤w.heap.size):Grows d X base w (J E 0 0) []:=
 ⟨World.ownsRow_nil _ _ _ _,by simp,by simp [Value.ownBlock],hx,lo⟩
theorem Grows.keep {d:Nat} {X:Nat→Prop} {base:Nat} {w w':World} {v:Value} {its:List (List Value)} (h:Grows d X base w v its) (hs:w.heap.size≤w'.heap.size) (hk:∀ b,b<w.heap.size→¬ X b→w'.heap[b]? = w.heap[b]?):Grows d X base w' v its:=by
 refine ⟨zat h.own fun b hb=>hk b (h.own.lt b hb).2 (h.nx b hb),fun c hc => ?_,h.nx,fun b hb=>U (h.xl b hb) hs,Nat.le_trans h.lo hs⟩
 exact ItC.mono d _ _ _ _ _ _ (fun b hb=>⟨hb.1,U hb.2.1 hs,hb.2.2.1,hb.2.2.2⟩) (fun b hb=>hk b hb.2.1 hb.2.2.2) (h.each c hc)
theorem Grows.below {d:Nat} {X:Nat→Prop} {base B:Nat} {w w':World} {v:Value} {its:List (List Value)} (h:Grows d X base w v its) (hb:Below B w w') (hB:w.heap.size≤B):Grows d X base w' v its:=
 h.keep hb.size fun b hl _=>hb.block b (U hl hB)
theorem Grows.more {d:Nat} {X:Nat→Prop} {base:Nat} {w W w':World} {v v':Value} {its cs:List (List Value)} (h:Grows d X base w v its) (hs:w.heap.size≤W.heap.size) (hk:∀ b,b<w.heap.size→W.heap[b]? = w.heap[b]?)
 (hg:W.grownBy w' v.ownBlock) (hv:v'.ownBlock=v.ownBlock∨v'.ownBlock=some W.heap.size) (hown:w'.ownsRow base 211 4 v' (its.length+cs.length) (its.flatten++cs.flatten)) (hc:∀ c∈cs,ItC d w (Fin base w v X) c ()):Grows d X base w' v' (its++cs):=by
 have hs':=hg.size
 have hf:∀ b,Fin base w v X b→Fin base w' v' X b:=by
  rintro b ⟨h0,h1,h2,h3⟩
  refine ⟨h0,by omega,?_,h3⟩
  rcases hv with q | q
  · rw [q];exact h2
  · rw [q]
    intro e
    cases e
    omega
 have hko:KeepOn (Fin base w v X) w w':=fun b hb=>(hg.block b (by have:=hb.2.1;omega) (fun q=>hb.2.2.1 q.symm)).trans (hk b hb.2.1)
 refine ⟨by simpa using hown,fun c hcc => ?_,fun b hb hX => ?_,fun b hb=>by have:=h.xl b hb;omega,by have:=h.lo;omega⟩
 · rcases List.mem_append.1 hcc with q | q
   · exact ItC.mono d _ _ _ _ _ _ hf hko (h.each c q)
   · exact ItC.mono d _ _ _ _ _ _ hf hko (hc c q)
 · rcases hv with q | q
   · exact h.nx b (by rw [← q];exact hb) hX
   · rw [q] at hb
     cases hb
     have:=h.xl _ hX
     omega
theorem zdw {d n c base:Nat} {q:Bool} {A:Option Addr} {ws:List (ByteArray × Bool)} {w:World} {S:Nat→Prop} (ho:w.ownsRow base 217 2 (J A n c) n (ws.flatMap wdC)) (hn:ws.length=n) (hw:∀ x∈ws,Wt x.1) (h1:1≤n∧n≤60) (hS:∀ b,base≤b→b<w.heap.size→S b) :
 ItC (d+1) w S [G I 0,J A n c,.bool q,J E 0 0] ():=by
 subst hn;obtain ⟨A',c',e,hc1,hc2⟩:=zac ho
 cases e
 exact ⟨A,c,q,E,0,0,ws,rfl,h1,⟨hc1,hc2⟩,zmD ho rfl hw hS,by unfold maxLen;omega,Rw.nil⟩
theorem zfL {base size n g cap:Nat} {e:TypeId}:∀ (l:List (Nat × Value)) {w:World} {xs:List Value},w.ownsRow base e size (J (some ⟨g,0,E⟩) n cap) n xs→(Go.Proofs.YtjkimieapfbhbaaGreatDoor.sets g w l).ownsRow base e size (J (some ⟨g,0,E⟩) n cap) n (zfj l xs)
 | [],_,_,h=>h
 | p::l,_,_,h=>zfL l (h.stored p.1 p.2).1
theorem ze8 {g:Nat}:∀ (l:List (Nat × Value)) (w:World),w.grownBy (Go.Proofs.YtjkimieapfbhbaaGreatDoor.sets g w l) (some g)
 | [],w=>World.grownBy.refl w _
 | p::l,w=>by
   have h1:w.grownBy (w.setCell ⟨g,p.1,E⟩ p.2) (some g):=⟨rfl,rfl,rfl,by simp,fun k _ hk=>heap_setCell_other w ⟨g,p.1,E⟩ k p.2 (fun e=>hk (by simp [e]))⟩
   have h2:=ze8 (g:=g) l (w.setCell ⟨g,p.1,E⟩ p.2)
   exact ⟨h2.os.trans h1.os,h2.tape.trans h1.tape,h2.output.trans h1.output,Nat.le_trans h1.size h2.size,fun b hb hn=>(h2.block b (U hb h1.size) hn).trans (h1.block b hb hn)⟩
theorem zhQ (xs:List Value) (n:Nat) (hn:xs.length=n*4) (a b c d a' b' c' d':Value):zfj [(n*4,a),(n*4+1,b),(n*4+2,c),(n*4+3,d)] (xs++[a',b',c',d'])=xs++[a,b,c,d]:=by
 have key:∀ (k:Nat) (zs:List Value) (v:Value),(xs++zs).set (n*4+k) v=xs++zs.set k v:=fun k zs v=>by
  rw [List.set_append_right _ _ (by omega),show n*4+k-xs.length=k by omega]
 have k0:=key 0;rw [Nat.add_zero] at k0;simp only [zfj,List.foldl_cons,List.foldl_nil,k0,key,List.set_cons_zero,List.set_cons_succ]
theorem za4 {w:World} {base size g n cap m:Nat} {e:TypeId} {xs zs:List Value} (h:w.ownsRow base e size (J (some ⟨g,0,E⟩) n cap) n (xs++zs)) (hm:xs.length=m) (k:Nat) {u:Value} (hu:zs[k]? = some u):w.cell? ⟨g,m+k,E⟩=some u:=by
 have:=h.cells (g:=g) rfl (m+k) u (by rw [List.getElem?_append_right (by omega),show m+k-xs.length=k by omega];exact hu)
 rwa [Addr.add_mid,Nat.zero_add] at this
theorem zcz {v v':Value} {g b n:Nat} (hv:v'.ownBlock=v.ownBlock∨v'.ownBlock=some n) (hb:v'.ownBlock=some b) (hn:v.ownBlock≠some g) (hg:g<n):g≠b:=by
 rintro rfl
 rcases hv with q | q
 · exact hn (q.symm.trans hb)
 · rw [hb] at q
   cases q
   omega
theorem zbT {d:Nat} {w:World} {S:Nat→Prop}:∀ {its:List (List Value)},(∀ c∈its,ItC d w S c ())→its.flatten.length=its.length*4
 | [],_=>rfl
 | c::its,h=>by
   have h1:=ItC.len (h c (by simp))
   have h2:=zbT (its:=its) (fun c' hc=>h c' (by simp [hc]))
   rw [List.flatten_cons,Z,jb,h1,h2]
   omega
theorem Grows.rw {d:Nat} {X S:Nat→Prop} {base n c:Nat} {w:World} {A:Option Addr} {its:List (List Value)} (h:Grows d X base w (J A n c) its) (hn:its.length=n) (hS:∀ b,base≤b→b<w.heap.size→¬ X b→S b):Rw (ItC d) 4 w S A n (List.replicate n ()):=by
 subst hn
 have h0:Rw (fun _ _ cs (x:List Value)=>cs=x) 4 w (fun b=>base≤b∧b<w.heap.size) A its.length its:=
  Rw.of_own (f:=id) (base:=base) (e := 211) (c:=c) (by rw [List.flatMap_id];exact h.own) rfl (fun x hx=>ItC.len (h.each x hx)) (fun _ _=>rfl) (fun b h1 h2=>⟨h1,h2⟩)
 refine ⟨by simp,fun hpos => ?_⟩
 obtain ⟨b,o,rfl,⟨hb1,hb2⟩,hr⟩:=h0.2 hpos;obtain ⟨g,cap,hv,-,-⟩:=h.own.form hpos
 have hbg:(J (some ⟨b,o,E⟩) its.length c).ownBlock=some b:=by
  injection hv with hv
  injection hv with hv
  injection hv with e1 e2
  subst e2
  rfl
 refine ⟨b,o,rfl,hS b hb1 hb2 (h.nx b hbg),fun k x hx => ?_⟩
 have hk:k<its.length:=by have:=(List.getElem?_eq_some_iff.1 hx).1;simpa using this
 obtain ⟨cs,hl,rfl,hat⟩:=hr k _ (List.getElem?_eq_getElem hk);exact ⟨_,hl,ItC.mono d _ _ _ _ _ _ (fun b hb=>hS b hb.1 hb.2.1 hb.2.2.2) (KeepOn.refl _ _) (h.each _ (List.getElem_mem hk)),hat⟩
def zjl (d:Nat) (w:World) (e:Ending) (w':World):Prop:=∃ cs,e = .returned (.agg cs.toArray)∧ItC d w' (fun b=>w.heap.size≤b∧b<w'.heap.size) cs ()∧Below w.heap.size w w'
def MapL (P:Program) (k e:TypeId) (w:World) (b n:Nat) (f:Lit→Option Value):Prop:=
 ∃ D:DataW Unit,w.ownsMap P k (plainElem P e) b n D∧Maps.size D=n∧∀ l,WideAt.IsKeyLit l→Maps.has D l=(f l).isSome∧∀ v,f l=some v→∃ y:DataW Unit × List MemPlace,plainElem P e v=some y∧∀ zd,D.atKey l zd=y.1
section
variable {P : Program} {k e t : TypeId} {w w' : World} {b n : Nat} {f : Lit → Option Value}
theorem MapL.made (P:Program) (k e:TypeId) (w:World):MapL P k e (w.alloc (.map #[] 0)) w.heap.size 0 (fun _=>E):=
 ⟨.map [],World.ownsMap_made w P k _,rfl,fun s _=>⟨rfl,fun v hv=>by cases hv⟩⟩
theorem MapL.block (h:MapL P k e w b n f):b<w.heap.size:=by
 obtain ⟨D,⟨es,clock,hb,_⟩,_⟩:=h
 rcases Nat.lt_or_ge b w.heap.size with hlt | hge
 · exact hlt
 · rw [Array.getElem?_eq_none hge] at hb;cases hb
theorem MapL.kept (h:MapL P k e w b n f) (hb:w'.heap[b]? = w.heap[b]?):MapL P k e w' b n f:=by
 obtain ⟨D,⟨es,clock,hb',F,hs,hD⟩,hf⟩:=h;exact ⟨D,⟨es,clock,hb.trans hb',F,hs,hD⟩,hf⟩
theorem MapL.below (h:MapL P k e w b n f) {B:Nat} (hb:Below B w w') (hB:b<B):MapL P k e w' b n f:=h.kept (hb.block b hB)
theorem MapL.len (h:MapL P k e w b n f) (ht:P.underlying t=some (.map k e)) (ty:TypeId):(Builtin.len_ #[t] ty #[.map (some b)]).run P w = .ok (.int .i64 n) w:=by
 obtain ⟨D,h1,h2,_⟩:=h;rw [h1.len ht ty,h2]
theorem MapL.look (h:MapL P k e w b n f) (K:Maps.Keyed P k) (ht:P.underlying t=some (.map k e)) {z:Value} (hz:(zeroValue e).run P w = .ok z w) {key:Value} {l:Lit} (hkey:keyOf P k key=some l) (c:Bool) :
 (Instr.lookup t (.map (some b)) key c).run P w = .ok (if c then .tuple #[(f l).getD z,.bool (f l).isSome] else (f l).getD z) w:=by
 obtain ⟨D,⟨es,clock,hb,F,_,hD⟩,_,hf⟩:=h;obtain ⟨hhas,hval⟩:=hf l (K.key hkey)
 rcases Maps.fit_look c K ht hz hb F hkey with ⟨hrun,_,hat⟩ | ⟨e0,y,_,_,hrun,hR,hat,_⟩
 · rw [← hD] at hat
   have h1:=Maps.has_false_of_atKey hat
   rw [h1] at hhas
   cases hfs:f l with
   | none=>rw [hrun];simp
   | some v=>rw [hfs] at hhas;simp at hhas
 · rw [← hD] at hat
   have h1:=Maps.has_true_of_atKey hat
   rw [h1] at hhas
   cases hfs:f l with
   | none=>rw [hfs] at hhas;simp at hhas
   | some v =>
     obtain ⟨y',hy',hat'⟩:=hval v hfs
     have:e0.val=v:=zgD hR hy' (by rw [← hat y.1,← hat' y.1])
     rw [hrun,this];simp
noncomputable def putL (f:Lit→Option Value) (l:Lit) (v:Value):Lit→Option Value:=fun x=>open Classical in if x=l then some v else f x
theorem MapL.store (h:MapL P k e w b n f) (K:Maps.Keyed P k) (ht:P.underlying t=some (.map k e)) (hn:n<maxLen) {key:Value} {l:Lit} (hkey:keyOf P k key=some l) (hnew:f l=E) {v:Value} {y:DataW Unit × List MemPlace} (hv:plainElem P e v=some y) :
 ∃ w',(Instr.mapUpdate t (.map (some b)) key v).run P w = .ok () w'∧MapL P k e w' b (n+1) (putL f l v)∧w.grownBy w' (some b):=by
 obtain ⟨D,hown,hsz,hf⟩:=h;obtain ⟨w',hrun,hown',hturn⟩:=hown.store K ht hn hkey (d:=y.1) (ps:=y.2) hv;have hkl:WideAt.IsKeyLit l:=K.key hkey;have hno:Maps.has D l=false:=by rw [(hf l hkl).1,hnew];rfl
 refine ⟨w',hrun,⟨_,hown',?_,fun x hx => ?_⟩,hturn.grown⟩
 · rw [Maps.size_put (hown.tidy K),hno,hsz];rfl
 · by_cases hxl:x=l
   · subst hxl
     simp only [putL,if_true]
     refine ⟨by rw [Maps.has_put_same hown.isMap hkl];rfl,fun v' hv' => ?_⟩
     cases hv'
     exact ⟨y,hv,fun zd=>Maps.atKey_put_same hown.isMap hkl _ _⟩
   · simp only [putL,if_neg hxl]
     obtain ⟨h1,h2⟩:=hf x hx
     refine ⟨by rw [Maps.has_put_other hxl];exact h1,fun v' hv' => ?_⟩
     obtain ⟨y',hy',hat⟩:=h2 v' hv'
     exact ⟨y',hy',fun zd=>by rw [Maps.atKey_put_other hxl];exact hat zd⟩
end
attribute [local go_sem ↓] zav zaw
attribute [local go_sem] zay zaz
def sigE (outs sigs:List ByteArray) (j:Nat):Int:=match sigs[j]? with
 | Option.none=>0
 | some x=>if seen outs outs.length x=false then 9 else if seen sigs j x then 8 else 0
def setE (outs sigs:List ByteArray):Int:=zbI (sigE outs sigs) sigs.length
def setK (outs:List ByteArray) (sets:List (ByteArray × List ByteArray)) (k:Nat):Int:=match sets[k]? with
 | Option.none=>0
 | some d=>setE outs d.2
def zg3 (outs:List ByteArray) (sets:List (ByteArray × List ByteArray)):Int:=zbI (setK outs sets) sets.length
def pubK (r:RelayM) (k:Nat):Int:=match r.pubs[k]? with
 | Option.none=>0
 | some p=>if idx (fun d=>same d.1 p) r.sets<0 then 9 else 0
def zlo (r:RelayM):Int:=zbI (pubK r) r.pubs.length
def ownE (r:RelayM):Int:=if dupB (r.outputs++r.inputs) then 8 else if zg3 r.outputs r.sets≠0 then zg3 r.outputs r.sets else zlo r
theorem zlV {outs sigs:List ByteArray} {j:Nat} {x:ByteArray} (hx:sigs[j]? = some x) (h:seen outs outs.length x=false):sigE outs sigs j=9:=by simp [sigE,hx,h]
theorem zlU {outs sigs:List ByteArray} {j:Nat} {x:ByteArray} (hx:sigs[j]? = some x) (h:seen outs outs.length x=true) (h2:seen sigs j x=true):sigE outs sigs j=8:=by simp [sigE,hx,h,h2]
theorem zlT {outs sigs:List ByteArray} {j:Nat} {x:ByteArray} (hx:sigs[j]? = some x) (h:seen outs outs.length x=true) (h2:seen sigs j x=false):sigE outs sigs j=0:=by simp [sigE,hx,h,h2]
theorem zhR {outs:List ByteArray} {sets:List (ByteArray × List ByteArray)} {k:Nat} {d:ByteArray × List ByteArray} (h:sets[k]? = some d):setK outs sets k=setE outs d.2:=by simp [setK,h]
theorem zej {outs:List ByteArray} {sets:List (ByteArray × List ByteArray)} {k j:Nat} {d:ByteArray × List ByteArray} {n:Int} (h:sets[k]? = some d) (hz:zaN (sigE outs d.2) j) (hj:j<d.2.length) (hn:sigE outs d.2 j=n) (h0:n≠0):setK outs sets k=n:=by
 rw [zhR h,setE,zbJ hz (by rw [hn];exact h0) hj,hn]
theorem zg0 {outs:List ByteArray} {sets:List (ByteArray × List ByteArray)} {k:Nat} {d:ByteArray × List ByteArray} (h:sets[k]? = some d) (hz:zaN (sigE outs d.2) d.2.length):setK outs sets k=0:=by
 rw [zhR h,setE,zbp hz]
theorem zhF {r:RelayM} (h:dupB (r.outputs++r.inputs)=true):ownE r=8:=by simp [ownE,h]
theorem zfJ {r:RelayM} (h:dupB (r.outputs++r.inputs)=false) {k:Nat} (hz:zaN (setK r.outputs r.sets) k) (hk:k<r.sets.length) {n:Int} (hn:setK r.outputs r.sets k=n) (h0:n≠0):ownE r=n:=by
 have:zg3 r.outputs r.sets=n:=by rw [zg3,zbJ hz (by rw [hn];exact h0) hk,hn]
 simp [ownE,h,this,h0]
theorem zka {r:RelayM} (h:dupB (r.outputs++r.inputs)=false) (hs:zaN (setK r.outputs r.sets) r.sets.length) {k:Nat} (hz:zaN (pubK r) k) (hk:k<r.pubs.length) {n:Int} (hn:pubK r k=n) (h0:n≠0):ownE r=n:=by
 have e1:zg3 r.outputs r.sets=0:=zbp hs;have e2:zlo r=n:=by rw [zlo,zbJ hz (by rw [hn];exact h0) hk,hn]
 simp [ownE,h,e1,e2]
theorem zlP {r:RelayM} (h:dupB (r.outputs++r.inputs)=false) (hs:zaN (setK r.outputs r.sets) r.sets.length) (hz:zaN (pubK r) r.pubs.length):ownE r=0:=by
 have e1:zg3 r.outputs r.sets=0:=zbp hs;have e2:zlo r=0:=zbp hz;simp [ownE,h,e1,e2]
def KnR (b:Nat) (W1:World) (xs:List ByteArray) (i:Value) (wr:World):Prop:=
 ∃ k:Nat,k≤xs.length∧i = G I k∧MapS Q 9 4 wr b k (zcb xs k)∧Below b W1 wr
def StR (B:Nat) (W1:World) (outs:List ByteArray) (sets:List (ByteArray × List ByteArray)) (i:Value) (wr:World):Prop:=
 ∃ k:Nat,k≤sets.length∧i = G I k∧zaN (setK outs sets) k∧Below B W1 wr
def SgR (b:Nat) (W1:World) (outs sigs:List ByteArray) (i:Value) (wr:World):Prop:=
 ∃ k:Nat,k≤sigs.length∧i = G I k∧zaN (sigE outs sigs) k∧MapS Q 9 4 wr b k (zcb sigs k)∧Below b W1 wr
def PbR (B:Nat) (W1:World) (r:RelayM) (i:Value) (wr:World):Prop:=
 ∃ k:Nat,k≤r.pubs.length∧i = G I k∧zaN (pubK r) k∧Below B W1 wr
theorem zmp (cs:List Value) (r:RelayM) (B:Nat) (w:World) (hB:B≤w.heap.size) (h:RelayC w B cs r) (hsm:r.Small) :
 Calls Q 104 #[.agg cs.toArray] w (zaU (ownE r) w):=by
 obtain ⟨i0,hi,hz0,hz1,hz2⟩:=info_parts zbn;have hbox:=zaa w (O cs.toArray 60);have hr0:=zbs (zck w cs 60) h.len;have hru:=hsm.rules;have hsu:=hsm.subs;have hse:=hsm.sets;have hpu:=hsm.pubs;have hsO:=zcN h;have hsI:=zdY h;have hlO:r.outputs.length≤36:=by have:=zbS r.kind;simp only [RelayM.outputs,Z,ja];omega
 have hlI:r.inputs.length≤30:=by simp only [RelayM.inputs,ja];omega
 have H:=Hd h;have HSO:=Hd hsO;have HSI:=Hd hsI;clear h hsO hsI;go_enter Tryz.func104,Tryz.ntmps104;go_wp2_with fail
 refine (zeC cs r B _ (by simp;omega) (RelayC.mono _ _ _ _ _ _ (M _) (hbox.mono hB) H.out) hru).mono ?_
 rintro e w2 ⟨A2,c2,rfl,hc2,hm2,ho2,hb2'⟩
 have hb2:=za8 (a:=w.alloc (O cs.toArray 60)) (B':=w.heap.size+1) hb2' rfl rfl rfl rfl (by simp);have hr2:=zal hr0 hb2 (Nat.lt_succ_self _);have hw2:=hbox.trans (hb2.mono (Nat.le_succ _));have hs2:=hw2.size;have hg2:w.heap.size<w2.heap.size:=by have:=hb2.size;simp only [World.size_alloc] at this;omega
 have hA2:A2=E→r.outputs.length=0:=by
  intro e;subst e
  rcases ho2.2 with ⟨_,h0⟩ | ⟨g,cap,cur,hv,_⟩
  · exact h0
  · cases hv
 clear hb2' hr0 hbox;have hs2':Src w2 1 A2 r.outputs.length (r.outputs.map .string):=Src.of_own ho2;have C1:=fun W' (hb:Below w2.heap.size w2 W')=>zjC A2 c2 r.outputs.length (r.outputs.map .string) W' (Src.of_own (zab ho2 hb (M _))) hA2 (zdG _) (by omega)
 have C2:=fun W' (hb:Below w2.heap.size w2 W')=>ziO cs r B W' (by have:=hb.size;omega) (RelayC.mono _ _ _ _ _ _ (M _) ((hw2.trans (hb.mono hs2)).mono hB) H.out) hsu
 have hmx:r.outputs.length+r.inputs.length≤maxLen:=by unfold maxLen;omega
 have hbx:(r.outputs.length+r.inputs.length)*16≤140737488355328:=by omega
 have hone:=zdG r.inputs
 have C3:∀ (W':World) (A':Option Addr) (c':Nat),W'.ownsRow w2.heap.size 9 1 (J A' (r.outputs.length+r.inputs.length) c') (r.outputs.length+r.inputs.length) (r.outputs.map .string++r.inputs.map .string)→Calls Q 143 #[J A' (r.outputs.length+r.inputs.length) c'] W' (zaG (dupB (r.outputs++r.inputs)) W'):=fun W' A' c' hown=>by
  have hl:(r.outputs++r.inputs).length=r.outputs.length+r.inputs.length:=Z
  have:=zgM A' c' W'.heap.size (r.outputs++r.inputs) W' (M _) (by rw [hl];exact Rws.of_ownStr (by rw [List.map_append];exact hown) (fun s hs=>by
   rcases List.mem_append.1 hs with h1 | h1
   · exact HSO.out s h1
   · exact HSI.out s h1)) (by omega)
  rw [hl] at this;exact this
 have HC3:=Hd C3;have HC1:=Hd C1;have HC2:=Hd C2;have HO2:=Hd ho2;clear C1 C2 C3 hs2' ho2 hA2;go_wp2_with fail
 go_region_held3 (fun w'=>zbG w' w.heap.size 0 53=some cs) (go_keep)
  (first
   | ((go_at_call 144;refine (HC1.out _ (zag (R _ _) 1)).mono ?_;rintro e w3 ⟨A3,c3,rfl,-,-,ho3,hb3'⟩;have hb3:=za8 (a:=w2) (B':=w2.heap.size) hb3' rfl rfl rfl rfl (M _);have p3:=zal hr2 hb3 hg2))
   | ((go_at_call 145;refine (HC2.out _ hb3).mono ?_;rintro e w4 ⟨A4,c4,rfl,-,-,ho4,hb4⟩;have hb24:=hb3.trans (hb4.mono hb3.size);have p4:=zal hr2 hb24 hg2;have ho34:=zao (base':=w2.heap.size) (zab ho3 hb4 (M _)) (M _);have hsrc:=Src.of_own ho4))
   | ((have _t:=ho34;refine zcm _ _ 22 (by rfl) (by rfl) Tryz.underlying22 hi hz0 hz1 hz2 rfl Nat.one_pos (by rfl) ho34 hb24 (by rfl) hsrc hone hmx hbx hb24.size ?_;intro v5 w5 hown5 hbel5 hsz5;have p5:=zal hr2 hbel5 hg2;obtain ⟨A5,c5,hv5,-,-⟩:=zac hown5;subst hv5))
   | ((go_at_call 143;refine (HC3.out _ _ _ hown5).mono ?_;rintro e w6 ⟨rfl,hb6⟩;have hb26:=hbel5.trans (hb6.mono hbel5.size);have p6:=zal hr2 hb26 hg2)))
 have hw6:=hw2.trans (hb26.mono hs2);have hs6:=hw6.size;have R6:=Hd (Rws.of_ownStr (zab HO2.out hb26 (M _)) HSO.out);have hg6:w.heap.size<w6.heap.size:=by have:=hb26.size;omega
 have hp6:=Hd (zcL p6).2;clear hb3' hb3 hb4 hb24 ho3 ho4 ho34 hsrc hown5 hbel5 hb6 p3 p4 p5 HC1 HC2 HC3 HO2 hb2 hr2 hone hmx hbx
 cases hd:dupB (r.outputs++r.inputs) with
 | true =>
   have HD:=Hd hd
   clear hd
   go_wp2
   go_ret
   exact ⟨zaP (zhF HD.out).symm,hw6⟩
 | false =>
 have HD:=Hd hd;clear hd;have hmm := @run_makeMap Q;go_wp2_with fail
 clear hmm
 go_loopw [25] (KnR w6.heap.size w6 r.outputs) (fun i _=>r.outputs.length-(intOf i).toNat)
 case atStart=>exact ⟨0,V _,rfl,by rw [zbu];exact MapS.made Q 9 4 w6,(R _ _).alloc (M _) _⟩
 case round =>
  obtain ⟨k,hk,rfl,hmap,hbel⟩:=hrel
  by_cases hlt:k<r.outputs.length
  · obtain ⟨b,o,x,rfl,hb,hx,hs,hc⟩:=R6.out.strAt hlt
    have hc':wr.cell? ⟨b,o+k,E⟩=some (L x):=(hbel.cell (p:=⟨b,o+k,E⟩) hb).trans hc
    have HX:=Hd hx
    obtain ⟨w',hup,hm',hg⟩:=hmap.store (t := 233) Tryz.underlying9 Tryz.underlying233 (by unfold maxLen;omega) hs (plainElem_bool Tryz.underlying4 true)
    have HM:=Hd hm'
    have HB:=Hd (hbel.grown hg (by have:=hmap.block;omega) (fun j hj=>by cases hj;exact M _))
    clear hx hc hmap hm' hg p6
    go_wp2
    go_roundw
    case rel=>exact ⟨k+1,by omega,by go_num,by rw [zbt HX.out];exact HM.out,HB.out⟩
    case measure=>simp [intOf];omega
  · obtain rfl:k=r.outputs.length:=by omega
    obtain ⟨W7,rfl⟩:∃ W7:World,W7=wr:=⟨_,rfl⟩
    have hm1:=hmap.block
    have HM:=Hd hmap
    have hw7:=hw6.trans (hbel.mono hs6)
    have hs7:=hw7.size
    have hbox7:=zbr hp6.out hbel hg6
    obtain ⟨c50,h50,A8,k8,e8,l8,m8,R8⟩:=H.out.sets
    obtain ⟨c51,h51,A9,k9,e9,l9,m9,R9⟩:=H.out.pubs
    cases e8;cases e9
    have q50:W7.cell? ⟨w.heap.size,50,E⟩=some (J A8 r.sets.length k8):=by simpa using hbox7 50 _ h50
    have q51:W7.cell? ⟨w.heap.size,51,E⟩=some (J A9 r.pubs.length k9):=by simpa using hbox7 51 _ h51
    have hrow7:=Hd (zbs hbox7 H.out.len)
    have hg7:w.heap.size<W7.heap.size:=by omega
    have R8':=Hd R8
    have R9':=Hd R9
    clear hmap hbel p6 hbox7 h50 h51 R8 R9 hlt hk
    go_wp2_with fail
    go_loopw [35] (StR W7.heap.size W7 r.outputs r.sets) (fun i _=>r.sets.length-(intOf i).toNat)
    case atStart=>exact ⟨0,V _,rfl,zaW _,R _ _⟩
    case round =>
     obtain ⟨k,hk,rfl,hall,hbel⟩:=hrel
     have HA:=Hd hall
     have hs8:=hbel.size
     have hw8:=hw7.trans (hbel.mono hs7)
     clear hall
     by_cases hlt:k<r.sets.length
     · obtain ⟨b,o,ds,x,rfl,hbb,hx,-,⟨cx,rfl,-,A5,k5,e5,l5,m5,R5⟩,hat⟩:=(R8'.out.mono SetC.mono (M _) (hw8.mono hB)).at_ hlt
       cases e5
       have q0:wr.cell? ⟨b,o+k*2,E⟩=some (L x.1):=hat 0 _ rfl
       have q1:wr.cell? ⟨b,o+k*2+1,E⟩=some (J A5 x.2.length k5):=hat 1 _ rfl
       have HX:=Hd hx
       have h30:=hsm.signals x (List.mem_of_getElem? hx)
       have HR5:=Hd R5
       have hmm := @run_makeMap Q
       have hbr:b<wr.heap.size:=by omega
       clear hx hat R5 q50 q51
       go_wp2_with fail
       clear hmm
       obtain ⟨wo,rfl⟩:∃ wo:World,wo=wr:=⟨_,rfl⟩
       have hbo:=zaa wo (O #[L x.1,J A5 x.2.length k5] 146)
       go_loopw [43] (SgR (wo.heap.size+1) (wo.alloc (O #[L x.1,J A5 x.2.length k5] 146)) r.outputs x.2) (fun i _=>x.2.length-(intOf i).toNat)
       case atStart=>exact ⟨0,V _,rfl,zaW _,by rw [zbu];simpa using MapS.made Q 9 4 (wo.alloc (O #[L x.1,J A5 x.2.length k5] 146)),(R _ _).alloc (by simp) _⟩
       case round =>
        obtain ⟨j,hj,rfl,hall,hmap,hbi⟩:=hrel
        have HZ:=Hd hall
        have hwo:Below wo.heap.size wo wr:=hbo.trans (hbi.mono (Nat.le_succ _))
        have hb7:Below W7.heap.size W7 wr:=hbel.trans (hwo.mono hs8)
        have hw9:=hw7.trans (hb7.mono hs7)
        have hmb:=hmap.block
        clear hall
        by_cases hjl:j<x.2.length
        · obtain ⟨b2,o2,sg,rfl,hb2,hsg,hss,hcs⟩:=(HR5.out.mono StrC.mono (M _) (hwo.mono (by omega))).strAt hjl
          have hlk:=(HM.out.below hb7 hm1).look (t := 233) Tryz.underlying9 Tryz.underlying233 (zbQ _) hss false
          have hlk2:=hmap.look (t := 233) Tryz.underlying9 Tryz.underlying233 (zbQ _) hss false
          rw [zc4] at hlk hlk2
          simp only [Bool.false_eq_true,if_false] at hlk hlk2
          have HSG:=Hd hsg
          clear hsg q0 q1
          cases hk1:seen r.outputs r.outputs.length sg with
          | false =>
            rw [hk1] at hlk
            have HK:=Hd hk1
            clear hk1 hmap hlk2
            go_wp2
            go_ret
            exact ⟨zaP (zfJ HD.out HA.out hlt (zej HX.out HZ.out hjl (zlV HSG.out HK.out) (by decide)) (by decide)).symm,hw9⟩
          | true =>
            rw [hk1] at hlk
            have HK:=Hd hk1
            clear hk1
            cases hk2:seen x.2 j sg with
            | true =>
              rw [hk2] at hlk2
              have HK2:=Hd hk2
              clear hk2 hmap
              go_wp2
              go_ret
              exact ⟨zaP (zfJ HD.out HA.out hlt (zej HX.out HZ.out hjl (zlU HSG.out HK.out HK2.out) (by decide)) (by decide)).symm,hw9⟩
            | false =>
              rw [hk2] at hlk2
              have HK2:=Hd hk2
              obtain ⟨w',hup,hm',hg⟩:=hmap.store (t := 233) Tryz.underlying9 Tryz.underlying233 (by unfold maxLen;omega) hss (plainElem_bool Tryz.underlying4 true)
              have HM2:=Hd hm'
              have HB2:=Hd (hbi.grown hg (by omega) (fun j hj=>by cases hj;exact M _))
              clear hk2 hmap hm' hg
              go_wp2
              go_roundw
              case rel=>exact ⟨j+1,by omega,by go_num,zaV HZ.out (zlT HSG.out HK.out HK2.out),by rw [zbt HSG.out];exact HM2.out,HB2.out⟩
              case measure=>simp [intOf];omega
        · obtain rfl:j=x.2.length:=by omega
          clear hmap q0 q1
          go_wp2
          go_roundw
          case rel=>exact ⟨k+1,by omega,by go_num,zaV HA.out (zg0 HX.out HZ.out),hb7⟩
          case measure=>simp [intOf];omega
     · obtain rfl:k=r.sets.length:=by omega
       have q51':wr.cell? ⟨w.heap.size,51,E⟩=some (J A9 r.pubs.length k9):=(hbel.cell (p:=⟨w.heap.size,51,E⟩) hg7).trans q51
       obtain ⟨W8,rfl⟩:∃ W8:World,W8=wr:=⟨_,rfl⟩
       have hrow8:=Hd (zal hrow7.out hbel hg7)
       have hs8':=hw8.size
       have hg8:w.heap.size<W8.heap.size:=by omega
       clear q50 q51 hlt hk
       go_wp2_with fail
       go_loopw [63] (PbR W8.heap.size W8 r) (fun i _=>r.pubs.length-(intOf i).toNat)
       case atStart=>exact ⟨0,V _,rfl,zaW _,R _ _⟩
       case round =>
        obtain ⟨k,hk,rfl,hall,hbel8⟩:=hrel
        have HZ:=Hd hall
        have hw9:=hw8.trans (hbel8.mono hs8')
        have hs9:=hbel8.size
        clear hall q51'
        by_cases hlt:k<r.pubs.length
        · obtain ⟨b,o,ds,x,rfl,hbb,hx,-,⟨u1,u2,rfl,hxl⟩,hat⟩:=(R9'.out.mono PubC.mono (M _) (hw9.mono hB)).at_ hlt
          have q0:wr.cell? ⟨b,o+k*3,E⟩=some (L x):=hat 0 _ rfl
          have q1:wr.cell? ⟨b,o+k*3+1,E⟩=some (G I u1):=hat 1 _ rfl
          have q2:wr.cell? ⟨b,o+k*3+2,E⟩=some (G I u2):=hat 2 _ rfl
          have HX:=Hd hx
          have hrow9:=zal hrow8.out hbel8 hg8
          clear hx hat
          have e9:=hbel8.alloc hs9 (O #[L x,G I u1,G I u2] 158)
          have C:=zg2 cs r B x (wr.alloc (O #[L x,G I u1,G I u2] 158)) (by simp;omega) (RelayC.mono _ _ _ _ _ _ (M _) ((hw8.trans (e9.mono hs8')).mono hB) H.out) (by omega)
          have hgr:w.heap.size<wr.heap.size:=by omega
          have hrow10:=(zeG wr (O #[L x,G I u1,G I u2] 158) w.heap.size 0 53 hgr).trans hrow9
          have HC:=Hd C
          clear C
          rcases zba (fun d:ByteArray × List ByteArray=>same d.1 x) r.sets with ⟨hix,-⟩ | ⟨si,sd,hix,-,-,-⟩
          · have hpk:pubK r k=9:=by simp [pubK,HX.out,hix]
            rw [hix] at HC
            have HP:=Hd hpk
            clear hpk hix
            go_wp2_with (go_at_call 146;refine HC.out.mono ?_;rintro e w10 ⟨rfl,hb10⟩)
            go_ret
            exact ⟨zaP (zka HD.out HA.out HZ.out hlt HP.out (by decide)).symm,hw9.trans ((zaa wr _).trans (hb10.mono (by simp)) |>.mono (by have:=hw9.size;omega))⟩
          · have hpk:pubK r k=0:=by simp [pubK,HX.out,hix]
            rw [hix] at HC
            have HP:=Hd hpk
            clear hpk hix
            go_wp2_with (go_at_call 146;refine HC.out.mono ?_;rintro e w10 ⟨rfl,hb10⟩)
            go_roundw
            case rel=>exact ⟨k+1,by omega,by go_num,zaV HZ.out HP.out,e9.trans (hb10.mono (by simp;omega))⟩
            case measure=>simp [intOf];omega
        · obtain rfl:k=r.pubs.length:=by omega
          go_wp2
          go_ret
          exact ⟨zaP (zlP HD.out HA.out HZ.out).symm,hw9⟩
end Go.Proofs.YtjkimieapfbhbaaGreatDoor
