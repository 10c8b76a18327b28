/-
 Compile: the tables of a configuration that keeps every rule.
-/
import Derived.Test.YtjkimieapfbhbaaGreatDoorKQe
import Derived.Test.YtjkimieapfbhbaaGreatDoorKRSe
import Derived.Test.YtjkimieapfbhbaaGreatDoorKOwn
set_option maxRecDepth 100000
set_option maxHeartbeats 16000000
open Go.Value renaming slice → d, string → E, int → L
open Option renaming none → C
open Go.Obj renaming cells → D
open List renaming getElem?_eq_getElem → J, mem_of_getElem? → M, getElem?_append_left → V, getElem?_append_right → X, getElem?_map → ja, mem_cons → jb, length_append → jc, length_map → jd, getElem?_of_mem → je
open Nat renaming le_refl → O, lt_of_lt_of_le → Q, zero_le → T, sub_self → U, zero_add → Z
open Go.World renaming ownsRow_nil → Y, size_setCell → jf
namespace Go.Proofs.YtjkimieapfbhbaaGreatDoor
open Go.RowKit
def PubR (w:World) (B:Nat) (cs:List Value) (e:PubE):Prop:=∃ A c,cs=zd7 (e,A,c)∧e.sigs.length≤c∧c≤maxLen∧Rws (fun _ _ cs n=>cs=[L .i64 n]) 1 w B A e.sigs.length e.sigs
theorem PubR.mono:Mono PubR:=by
 rintro w w' B B' cs e hB hb ⟨A,c,h1,h2,h3,h4⟩
 exact ⟨A,c,h1,h2,h3,h4.mono (fun _ _ _ _ _ _ _ _ q=>q) hB hb⟩
def TabRr (w:World) (B:Nat) (cs:List Value) (t:List ByteArray × List (Nat × Nat)):Prop:=∃ A c vS AI cI,cs=[d A t.1.length c,vS,d AI t.2.length cI]∧(t.1.length≤c∧c≤maxLen)∧(t.2.length≤cI∧cI≤maxLen)∧Rws StrC 1 w B A t.1.length t.1∧Rws (fun _ _ cs y=>cs=inC y) 2 w B AI t.2.length t.2
theorem TabRr.mono:Mono TabRr:=by
 rintro w w' B B' cs e hB hb ⟨A,c,vS,AI,cI,h1,h2,h3,h4,h5⟩
 exact ⟨A,c,vS,AI,cI,h1,h2,h3,h4.mono StrC.mono hB hb,h5.mono (fun _ _ _ _ _ _ _ _ q=>q) hB hb⟩
def TsF (xs:List RelayX) (I:List (List (Nat × Nat))) (j:Nat) (n:Nat) (ts:List TabT):Prop:=
 ts.length=n∧∀ (k:Nat) (t:TabT),ts[k]? = some t→∃ x,xs[k]? = some x∧t.outs=x.r.outputs∧t.ins=if k<j then (I[k]?).getD [] else []
def zaA (xs:List RelayX) (I:List (List (Nat × Nat))):List (List ByteArray × List (Nat × Nat)):=xs.mapIdx fun k x=>(x.r.outputs,(I[k]?).getD [])
def RetCmp (xs:List RelayX) (I:List (List (Nat × Nat))) (w:World) (e:Ending) (w':World):Prop:=
 ∃ A7 c7 A8 c8,e = .returned (.tuple #[.agg #[d A7 (zah xs xs.length).length c7,d A8 xs.length c8],L .i64 0])∧(zah xs xs.length).length≤c7∧c7≤maxLen∧xs.length≤c8∧c8≤maxLen ∧
  Rws PubR 5 w' w'.heap.size A7 (zah xs xs.length).length (zah xs xs.length)∧Rws TabRr 3 w' w'.heap.size A8 xs.length (zaA xs I)∧Below w.heap.size w w'∧(∀ b o,A7=some ⟨b,o,C⟩→w.heap.size≤b)∧(∀ b o,A8=some ⟨b,o,C⟩→w.heap.size≤b)
def CmR (w:World) (g gr:Nat) (a0 a1 a2 a3 a4 a5:Value) (xs:List RelayX) (i:Value) (wr:World):Prop:=
 ∃ (k:Nat) (nm:Option Nat) (v7 v8:Value) (ys:List PubT) (K:Nat→Prop) (ts:List TabT),k≤xs.length∧i = L .i64 (k:Int)∧CmI wr w.heap.size g gr a0 a1 a2 a3 a4 a5 nm (zah xs k) v7 v8 ys K ts k∧TsF xs [] 0 k ts∧Below w.heap.size w wr
def CmR2 (w:World) (g gr:Nat) (a0 a1 a2 a3 a4 a5:Value) (nm:Option Nat) (v7 v8:Value) (ys:List PubT) (xs:List RelayX) (I:List (List (Nat × Nat))) (i:Value) (wr:World):Prop:=
 ∃ (k:Nat) (K:Nat→Prop) (ts:List TabT),k≤xs.length∧i = L .i64 (k:Int)∧CmI wr w.heap.size g gr a0 a1 a2 a3 a4 a5 nm (zah xs xs.length) v7 v8 ys K ts xs.length∧TsF xs I k xs.length ts∧Below w.heap.size w wr
theorem zmy {vS:Value} (A:Option Addr) (n c:Nat) (h:vS.oneCell'=true):∀ u∈[d A n c,vS,d C 0 0],u.oneCell'=true:=by
 intro u hu;simp only [jb,List.not_mem_nil,or_false] at hu
 rcases hu with rfl | rfl | rfl
 · rfl
 · exact h
 · rfl
theorem zlz {xs:List RelayX} {k:Nat} {ts:List TabT} {x:RelayX} {t:TabT} (h:TsF xs [] 0 k ts) (hx:xs[k]? = some x) (h1:t.outs=x.r.outputs) (h2:t.ins=[]):TsF xs [] 0 (k+1) (ts++[t]):=by
 refine ⟨by rw [jc,h.1];rfl,fun j y hy => ?_⟩
 rcases Nat.lt_or_ge j ts.length with hj | hj
 · rw [V hj] at hy
   exact h.2 j y hy
 · rw [X hj] at hy
   have hl:=(List.getElem?_eq_some_iff.1 hy).1
   simp at hl
   have:j=k:=by have:=h.1;omega
   subst this
   rw [h.1,U] at hy
   simp at hy
   subst hy
   exact ⟨x,hx,h1,by simp [h2]⟩
theorem zkC {xs:List RelayX} {I:List (List (Nat × Nat))} {n:Nat} {ts:List TabT} (h:TsF xs [] 0 n ts):TsF xs I 0 n ts:=
 ⟨h.1,fun k t ht=>by
  obtain ⟨x,h1,h2,h3⟩:=h.2 k t ht;exact ⟨x,h1,h2,by simpa using h3⟩⟩
theorem zly {xs:List RelayX} {I:List (List (Nat × Nat))} {j n:Nat} {ts:List TabT} {t t':TabT} {ins:List (Nat × Nat)} (h:TsF xs I j n ts) (ht:ts[j]? = some t) (ho:t'.outs=t.outs) (hi:t'.ins=ins) (hI:I[j]? = some ins):TsF xs I (j+1) n (ts.set j t'):=by
 refine ⟨by rw [List.length_set];exact h.1,fun k y hy => ?_⟩
 rw [List.getElem?_set] at hy
 by_cases hk:j=k
 · subst hk
   rw [if_pos rfl,if_pos (List.getElem?_eq_some_iff.1 ht).1] at hy
   cases hy
   obtain ⟨x,h1,h2,-⟩:=h.2 j t ht
   exact ⟨x,h1,ho.trans h2,by rw [if_pos (Nat.lt_succ_self _),hI,hi];rfl⟩
 · rw [if_neg hk] at hy
   obtain ⟨x,h1,h2,h3⟩:=h.2 k y hy
   refine ⟨x,h1,h2,?_⟩
   rw [h3]
   by_cases hkj:k<j
   · rw [if_pos hkj,if_pos (by omega)]
   · rw [if_neg hkj,if_neg (by omega)]
theorem zlt {xs:List RelayX} {I:List (List (Nat × Nat))} {j n:Nat} {ts:List TabT} {t:TabT} (h:TsF xs I j n ts) (ht:ts[j]? = some t):t.ins=[]:=by
 obtain ⟨x,-,-,h3⟩:=h.2 j t ht;simpa using h3
theorem zmA {xs:List RelayX} {I:List (List (Nat × Nat))} {ts:List TabT} (h:TsF xs I xs.length xs.length ts):ts.map (fun t=>(t.outs,t.ins))=zaA xs I:=by
 apply List.ext_getElem?
 intro k;rw [ja,zaA,List.getElem?_mapIdx]
 cases ht:ts[k]? with
 | none =>
   have:xs[k]? = C:=List.getElem?_eq_none (by have:=List.getElem?_eq_none_iff.1 ht;have:=h.1;omega)
   rw [this]
   rfl
 | some t =>
   obtain ⟨x,h1,h2,h3⟩:=h.2 k t ht
   rw [h1]
   have:k<xs.length:=(List.getElem?_eq_some_iff.1 h1).1
   rw [if_pos this] at h3
   simp [h2,h3]
attribute [local go_sem ↓] zav zaw
attribute [local go_sem] zay zaz
theorem ziC (B cc:Nat) (p:StAt) (S:StatM) (A:Option Addr) (xs:List RelayX) (I:List (List (Nat × Nat))) (w:World) (hB:B≤w.heap.size) (h:ConfX w B p S A cc xs) (hn:zaH (zap xs)) (hF:CfgF S xs)
 (hP:PubsOk xs) (hI:∀ (k:Nat) (x:RelayX),xs[k]? = some x→∃ ins,I[k]? = some ins∧InpF (zap xs) (zah xs xs.length) k x.r.subs ins) :
 Calls Tryz.prog 18 #[.agg #[E S.name,d p.A1 S.buses.length p.c1,d p.A2 S.lines.length p.c2,d p.A3 S.sources.length p.c3,d p.A4 S.bays.length p.c4,d A xs.length cc]] w (RetCmp xs I w):=by
 obtain ⟨i0,hi,hz0,hz1,hz2⟩:=info_parts zjU;have HTI:=Hd (And.intro hi (And.intro hz0 (And.intro hz1 hz2)));clear hi hz0 hz1 hz2;have hx20:xs.length≤20:=by have:=hn.1;rw [zaL] at this;exact this
 have hb1:=zaa w (D #[E S.name,d p.A1 S.buses.length p.c1,d p.A2 S.lines.length p.c2,d p.A3 S.sources.length p.c3,d p.A4 S.bays.length p.c4,d A xs.length cc] 30);have hb2:Below w.heap.size w ((w.alloc (D #[E S.name,d p.A1 S.buses.length p.c1,d p.A2 S.lines.length p.c2,d p.A3 S.sources.length p.c3,d p.A4 S.bays.length p.c4,d A xs.length cc] 30)).alloc (D #[d C 0 0,d C 0 0] 38)):=hb1.alloc (by simp) _;have CB0:=(CB.new w (E S.name) (d p.A1 S.buses.length p.c1) (d p.A2 S.lines.length p.c2) (d p.A3 S.sources.length p.c3) (d p.A4 S.bays.length p.c4) (d A xs.length cc) 30).below (zaa (w.alloc (D #[E S.name,d p.A1 S.buses.length p.c1,d p.A2 S.lines.length p.c2,d p.A3 S.sources.length p.c3,d p.A4 S.bays.length p.c4,d A xs.length cc] 30)) (D #[d C 0 0,d C 0 0] 38)) (by simp)
 have hres:((w.alloc (D #[E S.name,d p.A1 S.buses.length p.c1,d p.A2 S.lines.length p.c2,d p.A3 S.sources.length p.c3,d p.A4 S.bays.length p.c4,d A xs.length cc] 30)).alloc (D #[d C 0 0,d C 0 0] 38)).heap[w.heap.size+1]? = some (.cells #[d C 0 0,d C 0 0] 38 (0,0)):=by
  rw [show w.heap.size+1=(w.alloc (D #[E S.name,d p.A1 S.buses.length p.c1,d p.A2 S.lines.length p.c2,d p.A3 S.sources.length p.c3,d p.A4 S.bays.length p.c4,d A xs.length cc] 30)).heap.size by simp];exact heap_alloc_new _ _
 have hsz:w.heap.size+1<((w.alloc (D #[E S.name,d p.A1 S.buses.length p.c1,d p.A2 S.lines.length p.c2,d p.A3 S.sources.length p.c3,d p.A4 S.bays.length p.c4,d A xs.length cc] 30)).alloc (D #[d C 0 0,d C 0 0] 38)).heap.size:=by simp
 have H:=Hd h;have HN:=Hd hn;have HF:=Hd hF;have HP:=Hd hP;have HI:=Hd hI;have HRES:=Hd hres;clear h hn hF hP hI hb1 hres;go_enter Tryz.func18,Tryz.ntmps18;go_upto_region 1 with fail
 generalize (w.alloc (D #[E S.name,d p.A1 S.buses.length p.c1,d p.A2 S.lines.length p.c2,d p.A3 S.sources.length p.c3,d p.A4 S.bays.length p.c4,d A xs.length cc] 30)).alloc (D #[d C 0 0,d C 0 0] 38)=W at *;have HC0:=Hd CB0;obtain ⟨hlt,p0,p1,p2,p3,p4,p5⟩:=CB0;go_wp2_with fail
 refine (zeM B p S A cc xs W (Nat.le_trans hB hb2.size) (H.out.mono (O _) (hb2.mono hB)) HN.out HF.out).mono ?_
 rintro e w1 ⟨rfl,j1⟩
 have b1:=hb2.trans (j1.mono hb2.size);obtain ⟨hlt1,q0,q1,q2,q3,q4,q5⟩:=HC0.out.below j1 hlt;clear hlt p0 p1 p2 p3 p4 p5;have hs1:=j1.size;have hbx:=zaa w1 (D #[E S.name,d p.A1 S.buses.length p.c1,d p.A2 S.lines.length p.c2,d p.A3 S.sources.length p.c3,d p.A4 S.bays.length p.c4,d A xs.length cc,.map C,d C 0 0,d C 0 0] 131);have hw2:=b1.trans (hbx.mono b1.size)
 have hC:CmI (w1.alloc (D #[E S.name,d p.A1 S.buses.length p.c1,d p.A2 S.lines.length p.c2,d p.A3 S.sources.length p.c3,d p.A4 S.bays.length p.c4,d A xs.length cc,.map C,d C 0 0,d C 0 0] 131)) w.heap.size w1.heap.size (w.heap.size+1) (E S.name) (d p.A1 S.buses.length p.c1) (d p.A2 S.lines.length p.c2) (d p.A3 S.sources.length p.c3) (d p.A4 S.bays.length p.c4) (d A xs.length cc) C (zah xs 0) (d C 0 0) (d C 0 0) [] (fun _=>False) [] 0:=by
  refine ⟨⟨heap_alloc_new _ _⟩,.inl ⟨rfl,rfl⟩,Y _ _ _ _,rfl,fun y hy=>by simp at hy,Y _ _ _ _,fun t ht=>by simp at ht,(hbx.block _ (by omega)).trans ((j1.block _ hsz).trans HRES.out),?_,?_⟩
  · have f0:Frm (w.heap.size+1) (fun _=>False) []:=⟨fun i j b hi=>by simp at hi,fun b hb=>by simp at hb,fun b hb=>hb.elim⟩
    have f1:Frm w1.heap.size (fun _=>False) [some (w.heap.size+1)]:=f0.fresh.mono (by omega)
    have f2:=f1.fresh.nil.nil.nil
    rw [World.size_alloc]
    exact f2.remap (fun i=>if i=0 then 1 else if i=4 then 0 else i+1) (show ∀ i,i<5→∀ j,j<5→(if i=0 then 1 else if i=4 then 0 else i+1)=(if j=0 then 1 else if j=4 then 0 else j+1)→i=j by decide) fun i hi=>by
     have:i<5:=hi
     rcases i with _ | _ | _ | _ | _ | i
     all_goals first | rfl | omega
  · intro b hb
    simp [Value.ownBlock] at hb
    have:=b1.size
    rcases hb with rfl | rfl <;> omega
 have hgw:w1.heap.size<(w1.alloc (D #[E S.name,d p.A1 S.buses.length p.c1,d p.A2 S.lines.length p.c2,d p.A3 S.sources.length p.c3,d p.A4 S.bays.length p.c4,d A xs.length cc,.map C,d C 0 0,d C 0 0] 131)).heap.size:=by simp
 have HCM:=Hd hC;have HW2:=Hd hw2;have hgb:w.heap.size≤w1.heap.size:=b1.size;clear hC hbx hw2 b1 j1;go_upto_region 5 with fail
 clear hlt1 q0 q1 q2 q3 q4 q5;generalize w1.alloc (D #[E S.name,d p.A1 S.buses.length p.c1,d p.A2 S.lines.length p.c2,d p.A3 S.sources.length p.c3,d p.A4 S.bays.length p.c4,d A xs.length cc,.map C,d C 0 0,d C 0 0] 131)=w2 at *;generalize w1.heap.size=g at *;obtain ⟨-,-,-,-,-,g5,-,-,-⟩:=HCM.out.cp.cells;go_wp2
 go_loopw [20] (CmR w g (w.heap.size+1) (E S.name) (d p.A1 S.buses.length p.c1) (d p.A2 S.lines.length p.c2) (d p.A3 S.sources.length p.c3) (d p.A4 S.bays.length p.c4) (d A xs.length cc) xs) (fun i _=>xs.length-(intOf i).toNat)
 case atStart=>exact ⟨0,_,_,_,_,_,_,T _,rfl,HCM.out,⟨rfl,fun k t ht=>by simp at ht⟩,HW2.out⟩
 case round =>
  obtain ⟨k,nm,v7,v8,ys,K,ts,hk,rfl,hC,hT,hbel⟩:=hrel;have hsw:=hbel.size
  by_cases hlt:k<xs.length
  · have hx:xs[k]? = some xs[k]:=J hlt
    obtain ⟨x,hxe⟩:∃ x,xs[k]=x:=⟨_,rfl⟩
    rw [hxe] at hx
    have F:=HF.out.rels k x hx
    have hsl:(zah xs k).length≤900:=by
     have:=zdS (xs:=xs) (fun i y hy=>by
      have:=(HF.out.rels i y hy).count.pubs
      obtain ⟨cs,hcs⟩:=H.out.rows.all_ y (M hy)
      rw [hcs.same,jd] at this
      exact this) k
     omega
    obtain ⟨A8,c8,rfl,-,-⟩:=zac hC.own8
    have HSN:=Hd (show Calls Tryz.prog 36 #[.pointer (some ⟨g,0,C⟩),L .i64 (k:Int)] wr.drew (zlE w.heap.size g (E S.name) (d p.A1 S.buses.length p.c1) (d p.A2 S.lines.length p.c2) (d p.A3 S.sources.length p.c3) (d p.A4 S.bays.length p.c4) (d A xs.length cc) (zah xs k++zbR k x) (d A8 k c8) (fun b=>b=g∨nm=some b∨v7.ownBlock=some b) K x.r.outputs wr.drew) from by
     refine zkp B w.heap.size g k cc _ _ _ _ _ A xs x nm (zah xs k) v7 (d A8 k c8) ys K wr.drew hB hsw (fun b=>b=g∨nm=some b∨v7.ownBlock=some b) (.inl rfl) (fun m hm => .inr (.inl hm)) (fun m hm => .inr (.inr hm)) (fun b hb => ?_) hC.drew.pre ?_ hx hx20 (HP.out.set k x hx) ?_ F.count hsl
     · have:w.heap.size≤b:=by
        rcases hb with rfl | q | q
        · exact hC.lo _ (by simp)
        · exact hC.lo _ (by simp [q])
        · exact hC.lo _ (by simp [q])
       omega
     · exact H.out.rows.mono RelayXC.mono (O _) (hbel.mono hB).drew
     · rw [← zci hx]
       exact zc0 HP.out (k+1))
    have g8:=hC.cp.cells.2.2.2.2.2.2.2.2
    have lg:=hC.cp.lt
    have HC:=Hd hC
    have HT:=Hd hT
    have HBEL:=Hd hbel
    have HX:=Hd hx
    clear hC hT hbel hx hxe F
    go_wp2
    go_region_law (first
     | ((refine zai (o:=⟨some 29,_,_,_,_,_⟩) (w:=w7.alloc (D #[d A2 x.r.outputs.length c2,vS,d C 0 0] 67)) _ _ 36 rfl rfl Tryz.underlying36 HTI.out.1 HTI.out.2.1 HTI.out.2.2.1 HTI.out.2.2.2 rfl (by decide) rfl HOW7.out rfl HSR7.out (zmy _ _ _ hvS) (by unfold maxLen;omega) (by omega) (by simp;omega) ?_;intro v8' w8 hown8 hg8 hv8;obtain ⟨mc,mf,ml⟩:=HS7.out.mid8 hg8;obtain ⟨A9,k9,hv8e,-,-⟩:=zac hown8;have HO8:=Hd hown8;have HG8:=Hd hg8;have HV8:=Hd hv8;clear hown8 hg8 hv8;subst hv8e))
     | ((go_simp;go_at_call 36;refine HSN.out.mono ?_;rintro e w7 ⟨A2,c2,vS,nm2,v72,ys2,K2,rfl,hc2,hm2,hvS,hp7,ho7,hkk,hko,hkb,h17,h27,h37⟩;have C7:=CmI.sent HC.out.drew (by exact hsw) hp7 hkk hko hkb h17 h27 h37;have g87:=C7.cp.cells.2.2.2.2.2.2.2.2;have lg7:=C7.cp.lt;have hs7:wr.heap.size≤w7.heap.size:=hkb.size;have HOW7:=Hd (C7.own8.alloc (D #[d A2 x.r.outputs.length c2,vS,d C 0 0] 67));have HSR7:=Hd (za5 w7 [d A2 x.r.outputs.length c2,vS,d C 0 0] 67 3 1 rfl);have HS7:=Hd (C7.below (zaa w7 (D #[d A2 x.r.outputs.length c2,vS,d C 0 0] 67)));have HO7:=Hd ho7;have HKB:=Hd hkb;have HC7:=Hd C7;have hgg:w.heap.size≤g:=HC.out.lo g (by simp);clear C7 hp7 hkk hko hkb h17 h27 h37 ho7)))
    all_goals
     go_wp2
     go_roundw
     case rel =>
      have htr:TabR (w7.alloc (D #[d A2 x.r.outputs.length c2,vS,d C 0 0] 67)) K2 ⟨x.r.outputs,A2,c2,vS,[],C,0⟩:=
       ⟨⟨hc2,hm2⟩,HO7.out.mono StrK.mono (fun _ q=>q) (fun q hq=>Below.heap_alloc w7 _ q (HC7.out.frm.kl q hq).1),hvS,⟨O _,T _⟩,Rw.nil⟩
      have P:=HS7.out.tabbed htr HG8.out HV8.out HO8.out
      refine ⟨k+1,nm2,v72,d A9 (k+1) k9,ys2,K2,_,by omega,by go_num,by rw [zci HX.out];exact P,zlz HT.out HX.out rfl rfl,Below.setCell ?_ hgg _⟩
      have b7:Below w.heap.size w w7:=HBEL.out.drew.trans (HKB.out.below hsw (by
       rintro b (rfl | q | q)
       · exact HC.out.lo _ (by simp)
       · exact HC.out.lo _ (by simp [q])
       · exact HC.out.lo _ (by simp [q])))
      exact (b7.alloc (by omega) _).trans (zgj HG8.out (by simp;omega) fun q hq=>(HS7.out.own8.lt q hq).1)
     case measure=>simp [intOf];omega
  · obtain rfl:k=xs.length:=by omega
    have HC:=Hd hC
    have HT:=Hd hT
    have HBEL:=Hd hbel
    obtain ⟨-,-,-,-,-,e5,-,-,-⟩:=hC.cp.cells
    clear hC hT hbel
    go_wp2
    go_loopw [37] (CmR2 w g (w.heap.size+1) (E S.name) (d p.A1 S.buses.length p.c1) (d p.A2 S.lines.length p.c2) (d p.A3 S.sources.length p.c3) (d p.A4 S.bays.length p.c4) (d A xs.length cc) nm v7 v8 ys xs I) (fun i _=>xs.length-(intOf i).toNat)
    case atStart=>exact ⟨0,K,ts,T _,rfl,HC.out,zkC HT.out,HBEL.out⟩
    case round =>
     obtain ⟨j,K',ts',hj,rfl,hC,hT,hbel⟩:=hrel
     have hsw':=hbel.size
     by_cases hjt:j<xs.length
     · have hx:xs[j]? = some xs[j]:=J hjt
       obtain ⟨x,hxe⟩:∃ x,xs[j]=x:=⟨_,rfl⟩
       rw [hxe] at hx
       obtain ⟨ins,hins,hI⟩:=HI.out j x hx
       obtain ⟨b8,cap,hv8,hlo8,hlt8⟩:=hC.own8.form (by omega)
       subst hv8
       have htl:j<ts'.length:=by rw [hT.1];exact hjt
       obtain ⟨t,ht⟩:∃ t,ts'[j]? = some t:=⟨_,J htl⟩
       have hti:=zlt hT ht
       have HIN:=Hd (zjW B g j cc p S A xs x nm (zah xs xs.length) v7 (d (some ⟨b8,0,C⟩) xs.length cap) ins wr.drew (show B≤wr.heap.size by omega) hC.drew.cp hC.drew.num (H.out.mono (O _) (hbel.mono hB).drew) HN.out hx (HF.out.rels j x hx).count.subs hI)
       have HIL:=Hd hI.len
       have g8:=hC.cp.cells.2.2.2.2.2.2.2.2
       have lg:=hC.cp.lt
       have hji:(j:Int)<(xs.length:Int):=by omega
       have hj0:(0:Int)≤(j:Int):=by omega
       have HC2:=Hd hC
       have HT2:=Hd hT
       have HB2:=Hd hbel
       have HTT:=Hd ht
       have HINS:=Hd hins
       have HX:=Hd hx
       clear hC hT hbel hx hxe hI hins ht htl
       go_wp2
       go_region_law ((go_simp;go_at_call 37;refine HIN.out.mono ?_;rintro e w7 ⟨AI,cI,rfl,hcI,hmI,hown,hb7⟩;have C7:=HC2.out.drew.below hb7;have g87:=C7.cp.cells.2.2.2.2.2.2.2.2;have lg7:=C7.cp.lt;have s8:=(C7.own8.cellAt (j*3+2) (by omega)).trans ((zh9 HTT.out 2 (by omega)).trans (show (tabC t)[2]? = some (d t.AI t.ins.length t.cI) from rfl));have f8:=C7.own8.frozenAt (j*3+2);have l8:b8<w7.heap.size:=Q hlt8 hb7.size;have HC7:=Hd C7;have HO7:=Hd hown;have HB7:=Hd hb7;clear C7 hown hb7))
       all_goals
        go_wp2
        go_roundw
        case rel =>
         have hfr:∀ b,(d AI x.r.subs.length cI).ownBlock=some b→wr.heap.size≤b∧b<w7.heap.size:=fun b hb=>HO7.out.lt b hb
         have C8:=HC7.out.more (K':=fun b=>K' b∨(d AI x.r.subs.length cI).ownBlock=some b) (fun b hb => .inl hb) (fun b hb=>by
          rcases hb with hb | hb
          · exact .inl hb
          · refine .inr ⟨(hfr b hb).2,fun z => ?_⟩
            have:=HC2.out.frm.lt b z
            have:=(hfr b hb).1
            omega)
         have hinl:=HIL.out
         have htr:TabR w7 (fun b=>K' b∨(d AI x.r.subs.length cI).ownBlock=some b) { t with ins:=ins,AI:=AI,cI:=cI }:=by
          have h0:=C8.tab t (M HTT.out)
          refine ⟨h0.c,h0.outs,h0.one,⟨by show ins.length≤cI;omega,hmI⟩,?_⟩
          show Rw InK 2 w7 _ AI ins.length ins
          rw [hinl]
          exact zkl (R:=InK) HO7.out hinl (fun _ _=>rfl) (fun _ _=>rfl) fun b hb => .inr hb
         have P:=C8.filled (u := d AI x.r.subs.length cI) HTT.out (t':={ t with ins:=ins,AI:=AI,cI:=cI }) (by show [_,_,d AI ins.length cI]=[_,_,d AI x.r.subs.length cI];rw [hinl]) htr
         refine ⟨j+1,_,_,by omega,by go_num,P,zly HT2.out HTT.out rfl rfl HINS.out,Below.setCell ?_ hlo8 _⟩
         exact HB2.out.drew.trans (HB7.out.mono hsw')
        case measure=>simp [intOf];omega
     · obtain rfl:j=xs.length:=by omega
       obtain ⟨A7,c7,hv7e,hc7,hm7⟩:=zac hC.own7
       obtain ⟨A8',c8',hv8e',hc8,hm8⟩:=zac hC.own8
       subst hv7e hv8e'
       obtain ⟨-,-,-,-,-,-,-,y7,y8⟩:=hC.cp.cells
       have lg:=hC.cp.lt
       have r0:wr.cell? ⟨w.heap.size+1,0,C⟩=some (d C 0 0):=by simp [World.cell?,hC.res]
       have r1:wr.cell? ⟨w.heap.size+1,1,C⟩=some (d C 0 0):=by simp [World.cell?,hC.res]
       have f0:=zcJ hC.res 0
       have f1:=zcJ hC.res 1
       have lr:w.heap.size+1<wr.heap.size:=(Array.getElem?_eq_some_iff.1 hC.res).1
       have HC2:=Hd hC
       have HT2:=Hd hT
       have HB2:=Hd hbel
       clear hC hT hbel
       go_wp2
       refine bodyPost_ret (v := .tuple #[.agg #[d A7 (zah xs xs.length).length c7,d A8' xs.length c8'],L .i64 0]) (by simp [results,Tryz.results18,go_sem,r0,r1]) rfl ?_
       obtain ⟨z1,z2,z3,z4⟩:=HC2.out.last (W':=(wr.setCell ⟨w.heap.size+1,0,C⟩ (d A7 (zah xs xs.length).length c7)).setCell ⟨w.heap.size+1,1,C⟩ (d A8' xs.length c8')) (fun q hq=>(heap_setCell_other _ ⟨w.heap.size+1,1,C⟩ q _ hq).trans (heap_setCell_other _ ⟨w.heap.size+1,0,C⟩ q _ hq))
       have hKl:∀ b,K' b→b<((wr.setCell ⟨w.heap.size+1,0,C⟩ (d A7 (zah xs xs.length).length c7)).setCell ⟨w.heap.size+1,1,C⟩ (d A8' xs.length c8')).heap.size:=fun b hb=>by
        rw [jf,jf]
        exact (HC2.out.frm.kl b hb).1
       have hysl:ys.length=(zah xs xs.length).length:=by rw [← jd (f:=(·.1)),HC2.out.ysL]
       refine ⟨A7,c7,A8',c8',rfl,hc7,hm7,hc8,hm8,?_,?_,(HB2.out.setCell (by show w.heap.size≤w.heap.size+1;omega) _).setCell (by show w.heap.size≤w.heap.size+1;omega) _,fun b o q=>(z1.lt b (by rw [q];rfl)).1,fun b o q=>(z3.lt b (by rw [q];rfl)).1⟩
       · have q1:=Rws.of_own (R:=fun w B cs (y:PubT)=>PubR w B cs y.1) z1 hysl (fun _ _=>rfl) (fun y hy=>by
          obtain ⟨s1,s2,s3⟩:=z2 y hy
          exact ⟨y.2.1,y.2.2,rfl,s1,s2,zkm s3 hKl (fun _ _ h=>h)⟩)
         have q2:=q1.map (f:=(·.1)) (R':=PubR) (fun cs y h=>h)
         rw [HC2.out.ysL] at q2
         exact q2
       · have q1:=Rws.of_own (R:=fun w B cs (t:TabT)=>TabRr w B cs (t.outs,t.ins)) z3 HT2.out.1 (fun _ _=>rfl) (fun t ht=>by
          have s:=z4 t ht
          exact ⟨t.A,t.c,t.vS,t.AI,t.cI,rfl,s.c,s.cI,zkm s.outs hKl (fun _ _ h=>h),zkm s.ins hKl (fun _ _ h=>h)⟩)
         have q2:=q1.map (f:=fun t=>(t.outs,t.ins)) (R':=TabRr) (fun cs t h=>h)
         rw [zmA HT2.out] at q2
         exact q2
end Go.Proofs.YtjkimieapfbhbaaGreatDoor
namespace Go.Proofs.YtjkimieapfbhbaaGreatDoor
open Go.RowKit
def zaQ:Nat→List Value→List (Nat × Value)
 | _,[]=>[]
 | o,u::us=>(o,u)::zaQ (o+1) us
theorem zgZ:∀ (us:List Value) (pre cs post:List Value) (o:Nat),pre.length=o→cs.length=us.length→zfj (zaQ o us) (pre++cs++post)=pre++us++post
 | [],pre,cs,post,o,_,h2=>by
   have:cs=[]:=List.length_eq_zero_iff.1 h2
   subst this
   rfl
 | u::us,pre,[],post,o,_,h2=>by simp at h2
 | u::us,pre,c::cs,post,o,h1,h2=>by
   have ih:=zgZ us (pre++[u]) cs post (o+1) (by simp [h1]) (by simpa using h2)
   have e:(pre++c::cs++post).set o u=pre++[u]++cs++post:=by
    rw [List.append_assoc,List.set_append_right _ _ (by omega),h1,U]
    simp
   show zfj (zaQ (o+1) us) ((pre++c::cs++post).set o u)=_
   rw [e,ih]
   simp
theorem zdO {size:Nat}:∀ {css:List (List Value)},(∀ c∈css,c.length=size)→∀ {k:Nat} {cs:List Value},css[k]? = some cs→∃ pre post,pre.length=k*size∧css.flatten=pre++cs++post∧∀ us,(css.set k us).flatten=pre++us++post
 | [],_,k,cs,h=>by simp at h
 | c::css,hl,0,cs,h=>by
   simp at h
   subst h
   exact ⟨[],css.flatten,by simp,by simp,fun us=>by simp⟩
 | c::css,hl,k+1,cs,h=>by
   obtain ⟨pre,post,h1,h2,h3⟩:=zdO (css:=css) (fun c' hc=>hl c' (by simp [hc])) (k:=k) (cs:=cs) (by simpa using h)
   refine ⟨c++pre,post,?_,by simp [h2],fun us=>by simp [h3]⟩
   rw [jc,h1,hl c (by simp),Nat.succ_mul,Nat.add_comm]
def LstF {α:Type} (R:World→(Nat→Prop)→List Value→α→Prop) (t:TypeId) (size base:Nat) (w:World) (S:Nat→Prop) (v:Value) (n:Nat) (F:Nat→α):Prop:=
 ∃ css:List (List Value),w.ownsRow base t size v n css.flatten∧css.length=n∧∀ (k:Nat) (cs:List Value),css[k]? = some cs→cs.length=size∧R w S cs (F k)
section
variable {α : Type} {R : World → (Nat → Prop) → List Value → α → Prop} {t : TypeId} {size base n : Nat} {w w' : World} {S S' : Nat → Prop} {v : Value} {F F' : Nat → α}
theorem LstF.keep (hR:zdj R) (h:LstF R t size base w S v n F) (hS:∀ b,S b→S' b) (hk:KeepOn S w w') (hv:∀ b,v.ownBlock=some b→w'.heap[b]? = w.heap[b]?):LstF R t size base w' S' v n F:=by
 obtain ⟨css,h1,h2,h3⟩:=h;exact ⟨css,zat h1 hv,h2,fun k cs hc=>⟨(h3 k cs hc).1,hR _ _ _ _ _ _ hS hk (h3 k cs hc).2⟩⟩
theorem LstF.eq (h:LstF R t size base w S v n F) (hF:∀ k,k<n→F k=F' k):LstF R t size base w S v n F':=by
 obtain ⟨css,h1,h2,h3⟩:=h;refine ⟨css,h1,h2,fun k cs hc=>⟨(h3 k cs hc).1,?_⟩⟩
 rw [← hF k (by have:=(List.getElem?_eq_some_iff.1 hc).1;omega)];exact (h3 k cs hc).2
theorem LstF.nil:LstF R t size base w S (d C 0 0) 0 F:=⟨[],Y _ _ _ _,rfl,fun k cs h=>by simp at h⟩
theorem LstF.at_ (h:LstF R t size base w S v n F) {k:Nat} (hk:k<n) :
 ∃ g cap cs,v = d (some ⟨g,0,C⟩) n cap∧(base≤g∧g<w.heap.size)∧cs.length=size∧R w S cs (F k)∧(∀ j u,cs[j]? = some u→w.cell? ⟨g,k*size+j,C⟩=some u)∧∀ j,w.frozen? ⟨g,j,C⟩=false:=by
 obtain ⟨css,h1,h2,h3⟩:=h;obtain ⟨g,cap,rfl,hb⟩:=h1.form (by omega);have hc:=J (l:=css) (i:=k) (by omega);obtain ⟨hl,hR⟩:=h3 k _ hc;refine ⟨g,cap,css[k],rfl,hb,hl,hR,fun j u hu => ?_,fun j=>h1.frozenAt j⟩
 obtain ⟨pre,post,p1,p2,-⟩:=zdO (size:=size) (fun c hc=>by
  obtain ⟨i,hi⟩:=je hc;exact (h3 i c hi).1) hc
 have:=h1.cells (g:=g) rfl (k*size+j) u (by
  rw [p2,List.append_assoc,X (by omega),p1,show k*size+j-k*size=j by omega,V (List.getElem?_eq_some_iff.1 hu).1];exact hu)
 rwa [Addr.add_mid,Z] at this
theorem LstF.put {g cap k:Nat} {us:List Value} {x:α} (h:LstF R t size base w S (d (some ⟨g,0,C⟩) n cap) n F) (hk:k<n) (hR:zdj R) (hg:¬ S g) (hus:us.length=size) (hx:R w S us x) :
 LstF R t size base (sets g w (zaQ (k*size) us)) S (d (some ⟨g,0,C⟩) n cap) n (fun j=>if j=k then x else F j):=by
 obtain ⟨css,h1,h2,h3⟩:=h;have hc:=J (l:=css) (i:=k) (by omega)
 obtain ⟨pre,post,p1,p2,p3⟩:=zdO (size:=size) (fun c hc=>by
  obtain ⟨i,hi⟩:=je hc;exact (h3 i c hi).1) hc
 have hko:KeepOn S w (sets g w (zaQ (k*size) us)):=fun b hb=>zaf g _ w b (fun q=>hg (q ▸ hb))
 refine ⟨css.set k us,?_,by simpa using h2,fun j cs hj => ?_⟩
 · have:=zfL (zaQ (k*size) us) h1
   rw [p2,zgZ us pre _ post _ p1 (by rw [(h3 k _ hc).1,hus]),← p3 us] at this
   exact this
 · rw [List.getElem?_set] at hj
   split at hj
   · rename_i q
     subst q
     split at hj
     · cases hj
       have e:(fun j=>if j=k then x else F j) k=x:=if_pos rfl
       rw [e]
       exact ⟨hus,hR _ _ _ _ _ _ (fun _ q=>q) hko hx⟩
     · cases hj
   · rename_i q
     have e:(fun j=>if j=k then x else F j) j=F j:=if_neg (fun z=>q z.symm)
     rw [e]
     exact ⟨(h3 j cs hj).1,hR _ _ _ _ _ _ (fun _ q=>q) hko (h3 j cs hj).2⟩
theorem LstF.push {v':Value} {us:List Value} {x:α} (h:LstF R t size base w S v n F) (hR:zdj R) (hS:∀ b,S b→S' b) (hk:KeepOn S w w') (hown:∀ css:List (List Value),css.length=n→w.ownsRow base t size v n css.flatten→w'.ownsRow base t size v' (n+1) (css.flatten++us)) (hus:us.length=size) (hx:R w' S' us x) (hn:F n=x) :
 LstF R t size base w' S' v' (n+1) F:=by
 obtain ⟨css,h1,h2,h3⟩:=h;refine ⟨css++[us],by simpa using hown css h2 h1,by simp [h2],fun j cs hj => ?_⟩
 rcases Nat.lt_or_ge j css.length with hl | hl
 · rw [V hl] at hj
   exact ⟨(h3 j cs hj).1,hR _ _ _ _ _ _ hS hk (h3 j cs hj).2⟩
 · rw [X hl] at hj
   have hl2:=(List.getElem?_eq_some_iff.1 hj).1
   simp at hl2
   have:j=n:=by omega
   subst this
   rw [h2,U] at hj
   simp at hj
   subst hj
   rw [hn]
   exact ⟨hus,hx⟩
end
def ValK (_:World) (_:Nat→Prop) (cs:List Value) (b:Bool):Prop:=cs=valC b
theorem ValK.mono:zdj ValK:=fun _ _ _ _ _ _ _ _ h=>h
def PbC (w:World) (S:Nat→Prop) (cs:List Value) (p:PbM):Prop:=∃ A c,cs=p.cells A c∧(p.vals.length≤c∧c≤maxLen)∧Rw ValK 6 w S A p.vals.length p.vals
theorem PbC.mono:zdj PbC:=fun _ _ _ _ _ _ hS hk ⟨A,c,h1,h2,h3⟩=>⟨A,c,h1,h2,h3.mono ValK.mono hS hk⟩
def SbC (w:World) (S:Nat→Prop) (cs:List Value) (p:SbM):Prop:=∃ A c,cs=p.cells A c∧(p.vals.length≤c∧c≤maxLen)∧Rw ValK 6 w S A p.vals.length p.vals
theorem SbC.mono:zdj SbC:=fun _ _ _ _ _ _ hS hk ⟨A,c,h1,h2,h3⟩=>⟨A,c,h1,h2,h3.mono ValK.mono hS hk⟩
theorem zgV {w:World} {B n:Nat} {S:Nat→Prop} {A:Option Addr} {bs:List Bool} (h:Rw ValK 6 w S A n bs) (hS:∀ b,S b→b<B):Rws ValR 6 w B A n bs:=
 ⟨h.1,fun hn=>by
  obtain ⟨b,o,e,hb,hr⟩:=h.2 hn
  exact ⟨b,o,e,hS b hb,fun k x hx=>by
   obtain ⟨cs,h1,h2,h3⟩:=hr k x hx;exact ⟨cs,h1,h2,h3⟩⟩⟩
theorem zeh {w:World} {base n c:Nat} {S:Nat→Prop} {A:Option Addr} {bs:List Bool} (h:w.ownsRow base 73 6 (d A n c) n (zaT bs)) (hn:bs.length=n) (hS:∀ b,base≤b→b<w.heap.size→S b):Rw ValK 6 w S A n bs:=
 Rw.of_own (f:=valC) h hn (fun _ _=>rfl) (fun _ _=>rfl) hS
def roles (vP vS:Value) (vs:List Value):List (Option Nat):=vP.ownBlock::vS.ownBlock::vs.map (·.ownBlock)
def zb8 (l:List (Option Nat)) (w:World) (b:Nat):Prop:=b<w.heap.size∧some b ∉ l
structure OffS (w:World) (base:Nat) (vP vS:Value) (vs:List Value) (nP:Nat) (G:Nat→PbM) (ln:List Nat) (F:Nat→Nat→SbM):Prop where
 inj:Inj (roles vP vS vs)
 lt:∀ b,some b∈roles vP vS vs→base≤b∧b<w.heap.size
 pubs:LstF PbC 93 13 base w (zb8 (roles vP vS vs) w) vP nP G
 outer:w.ownsRow base 47 1 vS vs.length vs
 len:ln.length=vs.length
 subs:∀ (i:Nat) (v:Value) (n:Nat),vs[i]? = some v→ln[i]? = some n→LstF SbC 78 9 base w (zb8 (roles vP vS vs) w) v n (F i)
section
variable {w w' : World} {base nP : Nat} {vP vS : Value} {vs : List Value} {G G' : Nat → PbM} {ln : List Nat} {F F' : Nat → Nat → SbM}
theorem OffS.keep (h:OffS w base vP vS vs nP G ln F) (hs:w.heap.size≤w'.heap.size) (hk:∀ b,b<w.heap.size→w'.heap[b]? = w.heap[b]?):OffS w' base vP vS vs nP G ln F:=by
 have hS:∀ b,zb8 (roles vP vS vs) w b→zb8 (roles vP vS vs) w' b:=fun b q=>⟨Q q.1 hs,q.2⟩
 have hko:KeepOn (zb8 (roles vP vS vs) w) w w':=fun b q=>hk b q.1
 have hr:∀ b,some b∈roles vP vS vs→w'.heap[b]? = w.heap[b]? := fun b q=>hk b (h.lt b q).2
 refine ⟨h.inj,fun b q=>⟨(h.lt b q).1,Q (h.lt b q).2 hs⟩,h.pubs.keep PbC.mono hS hko (fun b q=>hr b (by simp [roles,q])),zat h.outer (fun b q=>hr b (by simp [roles,q])),h.len,fun i v n hv hn => ?_⟩
 exact (h.subs i v n hv hn).keep SbC.mono hS hko fun b q=>hr b (by
  simp only [roles,jb,List.mem_map];exact .inr (.inr ⟨v,M hv,q⟩))
theorem OffS.below (h:OffS w base vP vS vs nP G ln F) (hb:Below w.heap.size w w'):OffS w' base vP vS vs nP G ln F:=h.keep hb.size fun b q=>hb.block b q
theorem OffS.eq (h:OffS w base vP vS vs nP G ln F) (hG:∀ k,k<nP→G k=G' k) (hF:∀ (i n k:Nat),ln[i]? = some n→k<n→F i k=F' i k):OffS w base vP vS vs nP G' ln F' :=
 ⟨h.inj,h.lt,h.pubs.eq hG,h.outer,h.len,fun i v n hv hn=>(h.subs i v n hv hn).eq fun k hk=>hF i n k hn hk⟩
theorem zdd {i:Nat} {v:Value} (h:vs[i]? = some v):(roles vP vS vs)[i+2]? = some v.ownBlock:=by
 show (vs.map (·.ownBlock))[i]? = _
 rw [ja,h]
 rfl
theorem OffS.putSub {g n cap i k:Nat} {us:List Value} {x:SbM} (h:OffS w base vP vS vs nP G ln F) (hv:vs[i]? = some (d (some ⟨g,0,C⟩) n cap)) (hn:ln[i]? = some n) (hk:k<n) (hx:SbC w (zb8 (roles vP vS vs) w) us x) :
 OffS (sets g w (zaQ (k*9) us)) base vP vS vs nP G ln (fun i' k'=>if i'=i∧k'=k then x else F i' k'):=by
 have hri:=zdd (vP:=vP) (vS:=vS) hv;have hg:¬ zb8 (roles vP vS vs) w g:=fun q=>q.2 (M hri)
 have hsz:(sets g w (zaQ (k*9) us)).heap.size=w.heap.size:=zbw _ _ _;have hSt:zb8 (roles vP vS vs) (sets g w (zaQ (k*9) us))=zb8 (roles vP vS vs) w:=by unfold zb8;rw [hsz]
 have hko:KeepOn (zb8 (roles vP vS vs) w) w (sets g w (zaQ (k*9) us)):=fun b hb=>zaf g _ w b (fun q=>hg (q ▸ hb))
 have hne:∀ (j b:Nat),j≠i+2→(roles vP vS vs)[j]? = some (some b)→(sets g w (zaQ (k*9) us)).heap[b]? = w.heap[b]? := fun j b hj hb =>
  zaf g _ w b fun q=>hj (h.inj j (i+2) b hb (by rw [hri,q];rfl))
 have hus:us.length=9:=by
  obtain ⟨A,c,rfl,-⟩:=hx
  rfl
 refine ⟨h.inj,fun b q=>by rw [hsz];exact h.lt b q,?_,zat h.outer fun b q=>hne 1 b (by omega) (by simp [roles,q]),h.len,fun j v m hv' hm => ?_⟩
 · rw [hSt]
   exact h.pubs.keep PbC.mono (fun _ q=>q) hko fun b q=>hne 0 b (by omega) (by simp [roles,q])
 · rw [hSt]
   by_cases hji:j=i
   · subst hji
     rw [hv] at hv'
     cases hv'
     rw [hn] at hm
     cases hm
     refine ((h.subs j _ n hv hn).put hk SbC.mono hg hus hx).eq fun k' hk' => ?_
     by_cases q:k'=k
     · rw [if_pos q,if_pos ⟨rfl,q⟩]
     · rw [if_neg q,if_neg (fun z=>q z.2)]
   · refine ((h.subs j v m hv' hm).keep SbC.mono (fun _ q=>q) hko fun b q=>hne (j+2) b (by omega) (by rw [zdd hv',q])).eq fun k' hk' => ?_
     rw [if_neg (fun z=>hji z.1)]
theorem OffS.putPub {g cap k:Nat} {us:List Value} {x:PbM} (h:OffS w base (d (some ⟨g,0,C⟩) nP cap) vS vs nP G ln F) (hk:k<nP) (hx:PbC w (zb8 (roles (d (some ⟨g,0,C⟩) nP cap) vS vs) w) us x) :
 OffS (sets g w (zaQ (k*13) us)) base (d (some ⟨g,0,C⟩) nP cap) vS vs nP (fun k'=>if k'=k then x else G k') ln F:=by
 have hr0:(roles (d (some ⟨g,0,C⟩) nP cap) vS vs)[0]? = some (some g):=rfl;have hg:¬ zb8 (roles (d (some ⟨g,0,C⟩) nP cap) vS vs) w g:=fun q=>q.2 (M hr0)
 have hsz:(sets g w (zaQ (k*13) us)).heap.size=w.heap.size:=zbw _ _ _;have hSt:zb8 (roles (d (some ⟨g,0,C⟩) nP cap) vS vs) (sets g w (zaQ (k*13) us))=zb8 (roles (d (some ⟨g,0,C⟩) nP cap) vS vs) w:=by unfold zb8;rw [hsz]
 have hko:KeepOn (zb8 (roles (d (some ⟨g,0,C⟩) nP cap) vS vs) w) w (sets g w (zaQ (k*13) us)):=fun b hb=>zaf g _ w b (fun q=>hg (q ▸ hb))
 have hne:∀ (j b:Nat),j≠0→(roles (d (some ⟨g,0,C⟩) nP cap) vS vs)[j]? = some (some b)→(sets g w (zaQ (k*13) us)).heap[b]? = w.heap[b]? := fun j b hj hb =>
  zaf g _ w b fun q=>hj (h.inj j 0 b hb (by rw [hr0,q]))
 have hus:us.length=13:=by
  obtain ⟨A,c,rfl,-⟩:=hx
  rfl
 refine ⟨h.inj,fun b q=>by rw [hsz];exact h.lt b q,?_,zat h.outer fun b q=>hne 1 b (by omega) (by simp [roles,q]),h.len,fun j v m hv' hm => ?_⟩
 · rw [hSt]
   exact h.pubs.put hk PbC.mono hg hus hx
 · rw [hSt]
   exact (h.subs j v m hv' hm).keep SbC.mono (fun _ q=>q) hko fun b q=>hne (j+2) b (by omega) (by rw [zdd hv',q])
theorem OffS.new (h:OffS w base vP vS vs nP G ln F) {b:Nat} (h1:w.heap.size≤b) (h2:b<w'.heap.size):zb8 (roles vP vS vs) w' b:=
 ⟨h2,fun q=>by have:=(h.lt b q).2;omega⟩
theorem OffS.outerAt (h:OffS w base vP vS vs nP G ln F) {i:Nat} (hi:i<vs.length) :
 ∃ g cap v n,vS = d (some ⟨g,0,C⟩) vs.length cap∧(base≤g∧g<w.heap.size)∧vs[i]? = some v∧ln[i]? = some n∧w.cell? ⟨g,i,C⟩=some v:=by
 obtain ⟨g,cap,e,hb⟩:=h.outer.form (by omega);have hv:=J hi;have hl:=h.len;refine ⟨g,cap,_,_,e,hb,hv,J (l:=ln) (by omega),?_⟩
 have:=h.outer.cells (g:=g) (by rw [e];rfl) i _ hv
 rwa [Addr.add_mid,Z] at this
end
end Go.Proofs.YtjkimieapfbhbaaGreatDoor
