/-
 The compiler's inputs: for each subscription of a relay the number of the publication and the place of the signal in it.
-/
import Derived.Test.YtjkimieapfbhbaaGreatDoorQc
import Derived.Test.YtjkimieapfbhbaaGreatDoorKDup
set_option maxRecDepth 100000
set_option maxHeartbeats 8000000
open Go.Value renaming int → d, slice → E
open Go.IntKind renaming i64 → f
open Option renaming none → D
open Go.Obj renaming cells → F
open Nat renaming le_refl → G, lt_of_lt_of_le → I, le_trans → M, zero_add → O
open List renaming mem_of_getElem? → J, getElem?_append_left → P, getElem?_append_right → Q
namespace Go.Proofs.YtjkimieapfbhbaaGreatDoor
open Go.RowKit
theorem zjS:(Tryz.prog.info? 80).map (fun i=>(i.zero,i.size,i.bytes))=some (some (.agg #[d f 0,d f 0]),2,16):=by kernel_rfl
structure InpF (rs:List RelayM) (L:List PubE) (ix:Nat) (subs:List SubM) (ins:List (Nat × Nat)):Prop where
 len:ins.length=subs.length
 each:∀ (k:Nat) (y:Nat × Nat),ins[k]? = some y→∃ r s:Nat,r<1000∧s<1000∧zbi rs (ix:Int) (k:Int)=((r:Int),(s:Int),(y.2:Int),0)∧zca L r s=some y.1
def inC (y:Nat × Nat):List Value:=[d f (y.1:Int),d f (y.2:Int)]
def InR (B base:Nat) (w1:World) (ins:List (Nat × Nat)) (N:Nat) (v i:Value) (wr:World):Prop:=∃ k:Nat,k≤N∧i = d f (k:Int)∧wr.ownsRow base 80 2 v k ((ins.take k).flatMap inC)∧Below B w1 wr
theorem zjW (B g ix cc:Nat) (p:StAt) (S:StatM) (A:Option Addr) (xs:List RelayX) (x:RelayX) (nm:Option Nat) (L:List PubE) (v7 v8:Value) (ins:List (Nat × Nat)) (w:World)
 (hB:B≤w.heap.size) (hc:CpB w g (.string S.name) (E p.A1 S.buses.length p.c1) (E p.A2 S.lines.length p.c2) (E p.A3 S.sources.length p.c3) (E p.A4 S.bays.length p.c4) (E A xs.length cc) nm v7 v8) (hN:NumS w g nm L)
 (h:ConfX w B p S A cc xs) (hn:zaH (zap xs)) (hx:xs[ix]? = some x) (hsub:x.r.subs.length≤24) (hI:InpF (zap xs) L ix x.r.subs ins) :
 Calls Tryz.prog 37 #[.pointer (some ⟨g,0,D⟩),d f (ix:Int)] w (RetRow 80 2 x.r.subs.length (ins.flatMap inC) w):=by
 obtain ⟨i0,hi,hz0,hz1,hz2⟩:=info_parts zjS;have HTI:=Hd (And.intro hi (And.intro hz0 (And.intro hz1 hz2)));clear hi hz0 hz1 hz2;have hx20:xs.length≤20:=by have:=hn.1;rw [zaL] at this;exact this
 have hixl:ix<xs.length:=(List.getElem?_eq_some_iff.1 hx).1;have hixi:(ix:Int)<(xs.length:Int):=by omega
 have hix0:(0:Int)≤(ix:Int):=by omega
 have H:=Hd h;obtain ⟨b,o,cs,x',hA,hbB,hx',hlen,hR,hat⟩:=h.rows.at_ hixl;rw [hx] at hx'
 cases hx'
 cases hA
 obtain ⟨c52,h52,A52,k52,e52,-,-,-⟩:=hR.base.subs
 cases e52
 have z52:w.cell? ⟨b,o+ix*53+52,D⟩=some (E A52 x.r.subs.length k52):=hat 52 _ h52;have hbw:b<w.heap.size:=by omega
 have HC:=Hd hc;have HN:=Hd hN;have HI:=Hd hI;have HS:=Hd hn;have hgl:=hc.lt;obtain ⟨d0,d1,d2,d3,d4,d5,-,-,-⟩:=hc.cells;clear h hx hR h52 hat hc hN hI hn hlen;go_enter Tryz.func37,Tryz.ntmps37;go_wp2
 go_loopw [5,19] (InR w.heap.size w.heap.size w ins x.r.subs.length) (fun _ i _=>x.r.subs.length-(intOf i).toNat)
 case atStart=>exact ⟨0,Nat.zero_le _,rfl,World.ownsRow_nil _ _ _ _,Below.refl _ _⟩
 case round =>
  obtain ⟨k,hk,rfl,hown,hbel⟩:=hrel;have hs:=hbel.size
  by_cases hlt:k<x.r.subs.length
  · have hkl:k<ins.length:=by rw [HI.out.len];exact hlt
    obtain ⟨y,hy⟩:∃ y,ins[k]? = some y:=⟨_,List.getElem?_eq_getElem hkl⟩
    obtain ⟨r,s,hr,hsz,hf,hnum⟩:=HI.out.each k y hy
    obtain ⟨AV,cV,rfl,-,-⟩:=zac hown
    obtain ⟨e0,e1,e2,e3,e4,e5⟩:=kb6 hbel hgl ⟨d0,d1,d2,d3,d4,d5⟩
    have hglr:g<wr.heap.size:=by omega
    have C:=zkO _ _ _ _ _ (some ⟨b,o,D⟩) cc B (zap xs) (ix:Int) (k:Int) wr (by omega) (H.out.mono (G _) (hbel.mono hB)).conf HS.out
    rw [zaL,hf] at C
    have HF:=Hd C
    have HY:=Hd hy
    have HBEL:=Hd hbel
    have HO:=Hd hown
    have HNUM:=Hd hnum
    clear C hf hy hbel hown hnum
    go_wp2_with fail
    refine HF.out.mono ?_
    rintro e w3 ⟨rfl,hb3⟩
    have hbx:=zaa w3 (F #[d f (r:Int),d f (s:Int),d f (y.2:Int)] 169)
    have b3:=HBEL.out.trans (hb3.mono hs)
    have b4:Below w.heap.size w (w3.alloc (F #[d f (r:Int),d f (s:Int),d f (y.2:Int)] 169)):=b3.trans (hbx.mono b3.size)
    have k0:(w3.alloc (F #[d f (r:Int),d f (s:Int),d f (y.2:Int)] 169)).cell? ⟨w3.heap.size,0,D⟩=some (d f (r:Int)):=by simp
    have k1:(w3.alloc (F #[d f (r:Int),d f (s:Int),d f (y.2:Int)] 169)).cell? ⟨w3.heap.size,1,D⟩=some (d f (s:Int)):=by simp
    have k2:(w3.alloc (F #[d f (r:Int),d f (s:Int),d f (y.2:Int)] 169)).cell? ⟨w3.heap.size,2,D⟩=some (d f (y.2:Int)):=by simp
    have g4:w3.heap.size<(w3.alloc (F #[d f (r:Int),d f (s:Int),d f (y.2:Int)] 169)).heap.size:=by simp
    have HO4:=Hd (show (w3.alloc (F #[d f (r:Int),d f (s:Int),d f (y.2:Int)] 169)).ownsRow w.heap.size 80 2 (E AV k cV) k ((ins.take k).flatMap inC) from (zab HO.out hb3 (G _)).alloc _)
    have B4:=Hd b4
    clear hb3 hbx b3 b4 e0 e1 e2 e3 e4 e5
    go_upto_region 6 with fail
    generalize w3.alloc (F #[d f (r:Int),d f (s:Int),d f (y.2:Int)] 169)=w4 at *
    have hs4:=B4.out.size
    have c4:=HC.out.kept (B4.out.block g hgl)
    have n4:=HN.out.kept (W':=w4) fun m hm=>B4.out.block m (HN.out.lt m hm).1
    have HOF:=Hd (show ∀ W':World,W'.heap=w4.heap→Calls Tryz.prog 77 #[.pointer (some ⟨g,6,D⟩),.agg #[d f (r:Int),d f (s:Int)]] W' (zaU (y.1:Int) W') from fun W' hW' =>
     zli g _ _ _ _ _ _ v7 v8 nm L r s y.1 W' (c4.kept (by rw [hW'])) (n4.kept fun m _=>by rw [hW']) hr hsz HNUM.out)
    have hg4:g<w4.heap.size:=by omega
    have hk24:k≤24:=by omega
    clear c4 n4
    go_region_law (first
     | ((refine zai (o:=⟨some 46,_,_,_,_,_⟩) (w:=w7.alloc (F #[d f (y.1:Int),d f (y.2:Int)] 80)) _ _ 65 rfl rfl Tryz.underlying65 HTI.out.1 HTI.out.2.1 HTI.out.2.2.1 HTI.out.2.2.2 rfl (by decide) rfl HOW7.out rfl HSR7.out (by simp [Value.oneCell']) (by unfold maxLen;omega) (by omega) (by simp;omega) ?_;intro v8' w8 hown8 hg8 hv8;obtain ⟨A8,k8,hv8e,-,-⟩:=zac hown8;have HO8:=Hd hown8;have HG8:=Hd hg8;clear hown8 hg8 hv8;subst hv8e))
     | ((go_simp;go_at_call 77;refine (HOF.out _ (by rfl)).mono ?_;rintro e w7 ⟨rfl,hb7⟩;have HB7:=Hd (show Below w4.heap.size w4 w7 from (Below.refl _ w4).drew.trans hb7);have m2:=(hb7.cell (p:=⟨w3.heap.size,2,D⟩) g4).trans k2;have m2':w7.cell? ⟨w3.heap.size,2,D⟩=some (d f (y.2:Int)):=m2;have g7:w3.heap.size<w7.heap.size:=I g4 hb7.size;have g70:w4.heap.size≤w7.heap.size:=hb7.size;have HOW7:=Hd ((zab HO4.out (HB7.out) (G _)).alloc (F #[d f (y.1:Int),d f (y.2:Int)] 80));have HSR7:=Hd (za5 w7 [d f (y.1:Int),d f (y.2:Int)] 80 2 1 rfl);clear hb7)))
    all_goals
     go_wp2
     go_roundw
     case rel =>
      refine ⟨k+1,by omega,by go_num,?_,?_⟩
      · rw [List.take_add_one,HY.out]
        simpa [inC] using HO8.out
      · have b7:=(B4.out.trans (HB7.out.mono hs4)).alloc (by omega) (F #[d f (y.1:Int),d f (y.2:Int)] 80)
        exact b7.trans (zgj HG8.out (by simp;omega) fun q hq=>(HOW7.out.lt q hq).1)
     case measure=>simp [intOf];omega
  · obtain rfl:k=x.r.subs.length:=by omega
    go_wp2
    go_ret
    rw [List.take_of_length_le (by rw [HI.out.len];exact G _)] at hown
    exact RetRow.mk hown (G _) hbel
theorem zjU:(Tryz.prog.info? 67).map (fun i=>(i.zero,i.size,i.bytes))=some (some (.agg #[E D 0 0,E D 0 0,E D 0 0]),3,72):=by kernel_rfl
structure TabT where
 outs:List ByteArray
 A:Option Addr
 c:Nat
 vS:Value
 ins:List (Nat × Nat)
 AI:Option Addr
 cI:Nat
def tabC (t:TabT):List Value:=[E t.A t.outs.length t.c,t.vS,E t.AI t.ins.length t.cI]
def InK (_:World) (_:Nat→Prop) (cs:List Value) (y:Nat × Nat):Prop:=cs=inC y
theorem InK.mono:zdj InK:=fun _ _ _ _ _ _ _ _ h=>h
structure TabR (w:World) (K:Nat→Prop) (t:TabT):Prop where
 c:t.outs.length≤t.c∧t.c≤maxLen
 outs:Rw StrK 1 w K t.A t.outs.length t.outs
 one:t.vS.oneCell'=true
 cI:t.ins.length≤t.cI∧t.cI≤maxLen
 ins:Rw InK 2 w K t.AI t.ins.length t.ins
theorem TabR.mono {w w':World} {K K':Nat→Prop} {t:TabT} (h:TabR w K t) (hK:∀ b,K b→K' b) (hk:KeepOn K w w'):TabR w' K' t:=
 ⟨h.c,h.outs.mono StrK.mono hK hk,h.one,h.cI,h.ins.mono InK.mono hK hk⟩
theorem Frm.add {n:Nat} {K:Nat→Prop} {l:List (Option Nat)} {o:Option Nat} (h:Frm n K l) (ho:∀ b,o=some b→b<n∧some b ∉ l∧¬ K b):Frm n K (l++[o]):=by
 have key:∀ (a b:Nat),(l++[o])[a]? = some (some b)→(a<l.length∧l[a]? = some (some b))∨(a=l.length∧o=some b):=by
  intro a b ha
  rcases Nat.lt_or_ge a l.length with h1 | h1
  · rw [P h1] at ha
    exact .inl ⟨h1,ha⟩
  · rw [Q h1] at ha
    have hl:=(List.getElem?_eq_some_iff.1 ha).1
    simp at hl
    have:a=l.length:=by omega
    subst this
    simp at ha
    exact .inr ⟨rfl,ha⟩
 refine ⟨fun i j b hi hj => ?_,fun b hb => ?_,fun b hb=>⟨(h.kl b hb).1,fun q => ?_⟩⟩
 · rcases key i b hi with ⟨-,h1⟩ | ⟨h1,h2⟩ <;> rcases key j b hj with ⟨-,h3⟩ | ⟨h3,h4⟩
   · exact h.inj i j b h1 h3
   · exact absurd (J h1) (ho b h4).2.1
   · exact absurd (J h3) (ho b h2).2.1
   · omega
 · rcases List.mem_append.1 hb with q | q
   · exact h.lt b q
   · simp at q
     exact (ho b q.symm).1
 · rcases List.mem_append.1 q with q | q
   · exact (h.kl b hb).2 q
   · simp at q
     exact (ho b q.symm).2.2 hb
structure CmI (W:World) (base g gr:Nat) (a0 a1 a2 a3 a4 a5:Value) (nm:Option Nat) (L:List PubE) (v7 v8:Value) (ys:List PubT) (K:Nat→Prop) (ts:List TabT) (n:Nat):Prop where
 cp:CpB W g a0 a1 a2 a3 a4 a5 nm v7 v8
 num:NumS W g nm L
 own7:W.ownsRow base 97 5 v7 L.length (ys.flatMap zd7)
 ysL:ys.map (·.1)=L
 sig:∀ y∈ys,SigR W K y
 own8:W.ownsRow base 67 3 v8 n (ts.flatMap tabC)
 tab:∀ t∈ts,TabR W K t
 res:W.heap[gr]? = some (.cells #[E D 0 0,E D 0 0] 38 (0,0))
 frm:Frm W.heap.size K [some g,nm,v7.ownBlock,v8.ownBlock,some gr]
 lo:∀ b,some b∈[some g,nm,v7.ownBlock,v8.ownBlock,some gr]→base≤b
section
variable {W W' W2 : World} {base g gr n : Nat} {a0 a1 a2 a3 a4 a5 : Value} {nm : Option Nat} {L : List PubE} {v7 v8 : Value} {ys : List PubT} {K : Nat → Prop} {ts : List TabT}
theorem CmI.keep (h:CmI W base g gr a0 a1 a2 a3 a4 a5 nm L v7 v8 ys K ts n) (hs:W.heap.size≤W'.heap.size) (hk:∀ b,b<W.heap.size→(K b∨some b∈[some g,nm,v7.ownBlock,v8.ownBlock,some gr])→W'.heap[b]? = W.heap[b]?) :
 CmI W' base g gr a0 a1 a2 a3 a4 a5 nm L v7 v8 ys K ts n:=by
 have hr:∀ b,some b∈[some g,nm,v7.ownBlock,v8.ownBlock,some gr]→W'.heap[b]? = W.heap[b]? := fun b hb=>hk b (h.frm.lt b hb) (.inr hb)
 have hK:KeepOn K W W':=fun b hb=>hk b (h.frm.kl b hb).1 (.inl hb)
 exact ⟨h.cp.kept (hr g (by simp)),h.num.kept (fun m hm=>hr m (by simp [hm])),za3 h.own7 (fun b hb=>hr b (by simp [hb])),h.ysL,fun y hy=>(h.sig y hy).mono (fun _ q=>q) hK,
  za3 h.own8 (fun b hb=>hr b (by simp [hb])),fun t ht=>(h.tab t ht).mono (fun _ q=>q) hK,(hr gr (by simp)).trans h.res,h.frm.mono hs,h.lo⟩
theorem CmI.below (h:CmI W base g gr a0 a1 a2 a3 a4 a5 nm L v7 v8 ys K ts n) (hb:Below W.heap.size W W'):CmI W' base g gr a0 a1 a2 a3 a4 a5 nm L v7 v8 ys K ts n:=
 h.keep hb.size fun b hlt _=>hb.block b hlt
theorem CmI.drew (h:CmI W base g gr a0 a1 a2 a3 a4 a5 nm L v7 v8 ys K ts n):CmI W.drew base g gr a0 a1 a2 a3 a4 a5 nm L v7 v8 ys K ts n:=h.keep (G _) fun _ _ _=>rfl
theorem CmI.pre (h:CmI W base g gr a0 a1 a2 a3 a4 a5 nm L v7 v8 ys K ts n):PreI W base g a0 a1 a2 a3 a4 a5 nm L v7 v8 ys K:=
 ⟨h.cp,h.num,h.own7,h.ysL,h.sig,h.frm.remap id (show ∀ i,i<3→∀ j,j<3→id i=id j→i=j by decide) fun i hi=>by
  have:i<3:=hi
  rcases i with _ | _ | _ | i
  all_goals first | rfl | omega⟩
theorem CmI.sent (h:CmI W base g gr a0 a1 a2 a3 a4 a5 nm L v7 v8 ys K ts n) (hbw:base≤W.heap.size) {nm':Option Nat} {L':List PubE} {v7':Value} {ys':List PubT} {K':Nat→Prop} (hp:PreI W' base g a0 a1 a2 a3 a4 a5 nm' L' v7' v8 ys' K') (hkk:∀ b,K b→K' b) (hko:KeepOn K W W')
 (hkb:KB (fun b=>b=g∨nm=some b∨v7.ownBlock=some b) W W') (h1:∀ m,nm'=some m→(m=g∨nm=some m∨v7.ownBlock=some m)∨W.heap.size≤m) (h2:∀ b,v7'.ownBlock=some b→(b=g∨nm=some b∨v7.ownBlock=some b)∨W.heap.size≤b) (h3:∀ b,K' b→K b∨W.heap.size≤b) :
 CmI W' base g gr a0 a1 a2 a3 a4 a5 nm' L' v7' v8 ys' K' ts n:=by
 have nx:∀ (i:Nat) (b:Nat),3≤i→[some g,nm,v7.ownBlock,v8.ownBlock,some gr][i]? = some (some b)→¬ (b=g∨nm=some b∨v7.ownBlock=some b):=by
  rintro i b hi hb (rfl | q | q)
  · exact h.frm.neb (i:=i) (j:=0) (by omega) hb rfl rfl
  · exact h.frm.neb (i:=i) (j:=1) (by omega) hb rfl q.symm
  · exact h.frm.neb (i:=i) (j:=2) (by omega) hb rfl q.symm
 have nb:∀ (i:Nat) (b:Nat),3≤i→[some g,nm,v7.ownBlock,v8.ownBlock,some gr][i]? = some (some b)→W'.heap[b]? = W.heap[b]? := fun i b hi hb=>hkb.block b (h.frm.role hb) (nx i b hi hb)
 have nf:∀ (i:Nat) (b:Nat),3≤i→[some g,nm,v7.ownBlock,v8.ownBlock,some gr][i]? = some (some b)→b<W'.heap.size∧some b ∉ [some g,nm',v7'.ownBlock]∧¬ K' b:=by
  intro i b hi hb;have hlt:=h.frm.role hb;refine ⟨I hlt hkb.size,fun q => ?_,fun q => ?_⟩
  · simp at q
    rcases q with q | q | q
    · exact nx i b hi hb (.inl q)
    · rcases h1 b q.symm with z | z
      · exact nx i b hi hb z
      · omega
    · rcases h2 b q.symm with z | z
      · exact nx i b hi hb z
      · omega
  · rcases h3 b q with z | z
    · exact (h.frm.kl b z).2 (J hb)
    · omega
 have f4:Frm W'.heap.size K' [some g,nm',v7'.ownBlock,v8.ownBlock]:=hp.frm.add fun b e=>nf 3 b (by decide) (by simp [e])
 have f5:Frm W'.heap.size K' [some g,nm',v7'.ownBlock,v8.ownBlock,some gr]:=f4.add fun b e=>by
  cases e
  obtain ⟨q1,q2,q3⟩:=nf 4 gr (by decide) rfl;refine ⟨q1,fun q => ?_,q3⟩
  simp at q
  rcases q with q | q | q | q
  · exact q2 (by simp [q])
  · exact q2 (by simp [q])
  · exact q2 (by simp [q])
  · exact h.frm.neb (i:=4) (j:=3) (by decide) rfl rfl q
 refine ⟨hp.cp,hp.num,hp.own7,hp.ysL,hp.sig,za3 h.own8 fun b hb=>nb 3 b (by decide) (by simp [hb]),fun t ht=>(h.tab t ht).mono hkk hko,(nb 4 gr (by decide) rfl).trans h.res,f5,fun b hb => ?_⟩
 have l0:∀ b,(b=g∨nm=some b∨v7.ownBlock=some b)→base≤b:=by
  rintro b (rfl | q | q)
  · exact h.lo _ (by simp)
  · exact h.lo _ (by simp [q])
  · exact h.lo _ (by simp [q])
 simp at hb
 rcases hb with q | q | q | q | q
 · exact l0 b (.inl q)
 · exact (h1 b q.symm).elim (l0 b) fun z=>M hbw z
 · exact (h2 b q.symm).elim (l0 b) fun z=>M hbw z
 · exact h.lo b (by simp [q])
 · exact h.lo b (by simp [q])
theorem CmI.tabbed (h:CmI W base g gr a0 a1 a2 a3 a4 a5 nm L v7 v8 ys K ts n) {t:TabT} (ht:TabR W K t) {v':Value} (hg:W.grownBy W2 v8.ownBlock) (hv:v'.ownBlock=v8.ownBlock∨v'.ownBlock=some W.heap.size) (ho:W2.ownsRow base 67 3 v' (n+1) (ts.flatMap tabC++tabC t)) :
 CmI (W2.setCell ⟨g,8,D⟩ v') base g gr a0 a1 a2 a3 a4 a5 nm L v7 v' ys K (ts++[t]) (n+1):=by
 have hK:KeepOn K W W2:=h.frm.keep hg (i:=3) rfl;have r0:=h.frm.other (b:=g) hg (i:=3) (j:=0) rfl (by decide) rfl;have hgt:∀ b,b≠g→(W2.setCell ⟨g,8,D⟩ v').heap[b]? = W2.heap[b]? := fun b hb=>heap_setCell_other W2 ⟨g,8,D⟩ b v' hb
 have nb:∀ (i:Nat) (b:Nat),i≠0→[some g,nm,v7.ownBlock,v8.ownBlock,some gr][i]? = some (some b)→b≠g:=fun i b hi hb z=>h.frm.neb (i:=i) (j:=0) hi hb rfl (by rw [z])
 have hfr:Frm W2.heap.size K ([some g,nm,v7.ownBlock,v8.ownBlock,some gr].set 3 v'.ownBlock):=by
  rcases hv with e | e
  · rw [e,zde rfl];exact h.frm.mono hg.size
  · refine h.frm.set hg.size fun b z => ?_
    rw [e] at z
    cases z
    exact ⟨G _,(ho.lt _ e).2⟩
 have hKK:KeepOn K W (W2.setCell ⟨g,8,D⟩ v'):=hK.trans fun b hb=>hgt b fun z=>(h.frm.kl b hb).2 (by simp [z])
 refine ⟨⟨?_⟩,h.num.kept fun b hb=>(hgt b (nb 1 b (by decide) (by simp [hb]))).trans (h.frm.other hg (i:=3) (j:=1) rfl (by decide) (by simp [hb])),
  za3 (h.frm.row hg (i:=3) (j:=2) rfl (by decide) rfl h.own7) fun b hb=>hgt b (nb 2 b (by decide) (by simp [hb])),h.ysL,fun y hy=>(h.sig y hy).mono (fun _ q=>q) hKK,?_,fun t' ht' => ?_,
  (hgt gr (nb 4 gr (by decide) rfl)).trans ((h.frm.other hg (i:=3) (j:=4) rfl (by decide) rfl).trans h.res),by rw [World.size_setCell];exact hfr,fun b hb => ?_⟩
 · rw [heap_setCell_same W2 g 8 _ _ _ (r0.trans h.cp.heap)]
   rfl
 · rw [List.flatMap_append,List.flatMap_cons,List.flatMap_nil,List.append_nil]
   refine za3 ho fun b hb=>hgt b fun z => ?_
   have h3:=hfr.neb (i:=3) (j:=0) (by decide) (b:=b) (by simp [hb]) rfl
   exact h3 (by rw [z])
 · rcases List.mem_append.1 ht' with q | q
   · exact (h.tab t' q).mono (fun _ z=>z) hKK
   · simp at q
     subst q
     exact ht.mono (fun _ z=>z) hKK
 · simp at hb
   rcases hb with q | q | q | q | q
   · exact h.lo b (by simp [q])
   · exact h.lo b (by simp [q])
   · exact h.lo b (by simp [q])
   · exact (ho.lt b q.symm).1
   · exact h.lo b (by simp [q])
theorem CmI.mid8 (h:CmI W base g gr a0 a1 a2 a3 a4 a5 nm L v7 v8 ys K ts n) (hg:W.grownBy W2 v8.ownBlock):W2.cell? ⟨g,8,D⟩=some v8∧W2.frozen? ⟨g,8,D⟩=false∧g<W2.heap.size:=by
 have r5:=h.frm.other (b:=g) hg (i:=3) (j:=0) rfl (by decide) rfl;exact ⟨(World.cell?_of_block (a:=⟨g,8,D⟩) r5).trans h.cp.cells.2.2.2.2.2.2.2.2,zcJ (r5.trans h.cp.heap) 8,I h.cp.lt hg.size⟩
theorem CmI.more (h:CmI W base g gr a0 a1 a2 a3 a4 a5 nm L v7 v8 ys K ts n) {K':Nat→Prop} (hK:∀ b,K b→K' b) (hn:∀ b,K' b→K b∨(b<W.heap.size∧some b ∉ [some g,nm,v7.ownBlock,v8.ownBlock,some gr])) :
 CmI W base g gr a0 a1 a2 a3 a4 a5 nm L v7 v8 ys K' ts n:=
 ⟨h.cp,h.num,h.own7,h.ysL,fun y hy=>(h.sig y hy).mono hK (KeepOn.refl _ _),h.own8,fun t ht=>(h.tab t ht).mono hK (KeepOn.refl _ _),h.res,h.frm.more hn,h.lo⟩
theorem zh9:∀ {ts:List TabT} {j:Nat} {t:TabT},ts[j]? = some t→∀ i,i<3→(ts.flatMap tabC)[j*3+i]? = (tabC t)[i]?
 | [],_,_,h,_,_=>by simp at h
 | y::ts,0,t,h,i,hi=>by
   simp at h
   subst h
   rw [List.flatMap_cons,P (by show _<3;omega),Nat.zero_mul,O]
 | y::ts,j+1,t,h,i,hi=>by
   rw [List.flatMap_cons,Q (by show 3≤_;omega),show (j+1)*3+i-(tabC y).length=j*3+i by show (j+1)*3+i-3=_;omega]
   exact zh9 (ts:=ts) (j:=j) (by simpa using h) i hi
theorem zia:∀ {ts:List TabT} {j:Nat} {t t':TabT} {u:Value},ts[j]? = some t→tabC t'=(tabC t).set 2 u→(ts.flatMap tabC).set (j*3+2) u=(ts.set j t').flatMap tabC
 | [],_,_,_,_,h,_=>by simp at h
 | y::ts,0,t,t',u,h,ht=>by
   simp at h
   subst h
   rw [List.flatMap_cons,List.set_append_left _ _ (by show _<3;omega),List.set_cons_zero,List.flatMap_cons,ht,Nat.zero_mul,O]
 | y::ts,j+1,t,t',u,h,ht=>by
   rw [List.flatMap_cons,List.set_append_right _ _ (by show 3≤_;omega),show (j+1)*3+2-(tabC y).length=j*3+2 by show (j+1)*3+2-3=_;omega,List.set_cons_succ,List.flatMap_cons,
    zia (ts:=ts) (j:=j) (by simpa using h) ht]
theorem flat_len (ts:List TabT):(ts.flatMap tabC).length=ts.length*3:=by
 induction ts with
 | nil=>rfl
 | cons t ts ih=>rw [List.flatMap_cons,List.length_append,ih,List.length_cons];show 3+_=_;omega
theorem CmI.filled {b8 c8 j:Nat} {t t':TabT} {u:Value} (h:CmI W base g gr a0 a1 a2 a3 a4 a5 nm L v7 (E (some ⟨b8,0,D⟩) n c8) ys K ts n) (ht:ts[j]? = some t) (hc:tabC t'=(tabC t).set 2 u) (hr:TabR W K t') :
 CmI (W.setCell ⟨b8,j*3+2,D⟩ u) base g gr a0 a1 a2 a3 a4 a5 nm L v7 (E (some ⟨b8,0,D⟩) n c8) ys K (ts.set j t') n:=by
 obtain ⟨o8,hg⟩:=h.own8.stored (j*3+2) u;have hK:KeepOn K W (W.setCell ⟨b8,j*3+2,D⟩ u):=h.frm.keep hg (i:=3) rfl
 refine ⟨h.cp.kept (h.frm.other (b:=g) hg (i:=3) (j:=0) rfl (by decide) rfl),h.num.kept fun m hm=>h.frm.other hg (i:=3) (j:=1) rfl (by decide) (by simp [hm]),h.frm.row hg (i:=3) (j:=2) rfl (by decide) rfl h.own7,h.ysL,
  fun y hy=>(h.sig y hy).mono (fun _ q=>q) hK,by rw [← zia ht hc];exact o8,fun y hy => ?_,(h.frm.other (b:=gr) hg (i:=3) (j:=4) rfl (by decide) rfl).trans h.res,h.frm.mono hg.size,h.lo⟩
 rcases List.mem_or_eq_of_mem_set hy with q | rfl
 · exact (h.tab y q).mono (fun _ z=>z) hK
 · exact hr.mono (fun _ z=>z) hK
theorem CmI.last (h:CmI W base g gr a0 a1 a2 a3 a4 a5 nm L v7 v8 ys K ts n) (hk:∀ b,b≠gr→W'.heap[b]? = W.heap[b]?) :
 W'.ownsRow base 97 5 v7 L.length (ys.flatMap zd7)∧(∀ y∈ys,SigR W' K y)∧W'.ownsRow base 67 3 v8 n (ts.flatMap tabC)∧(∀ t∈ts,TabR W' K t):=by
 have hK:KeepOn K W W':=fun b hb=>hk b fun z=>(h.frm.kl b hb).2 (by simp [z])
 have nb:∀ (i:Nat) (b:Nat),i≠4→[some g,nm,v7.ownBlock,v8.ownBlock,some gr][i]? = some (some b)→W'.heap[b]? = W.heap[b]? := fun i b hi hb=>hk b fun z=>h.frm.neb (i:=i) (j:=4) hi hb rfl (by rw [z])
 exact ⟨za3 h.own7 fun b hb=>nb 2 b (by decide) (by simp [hb]),fun y hy=>(h.sig y hy).mono (fun _ q=>q) hK,za3 h.own8 fun b hb=>nb 3 b (by decide) (by simp [hb]),fun t ht=>(h.tab t ht).mono (fun _ q=>q) hK⟩
theorem zkm {α:Type} {R:World→(Nat→Prop)→List Value→α→Prop} {R':World→Nat→List Value→α→Prop} {size B k:Nat} {w:World} {A:Option Addr} {xs:List α} (h:Rw R size w K A k xs) (hK:∀ b,K b→b<B) (hR:∀ cs x,R w K cs x→R' w B cs x):Rws R' size w B A k xs:=by
 refine ⟨h.1,fun hn => ?_⟩
 obtain ⟨b,o,e,hb,hr⟩:=h.2 hn
 exact ⟨b,o,e,hK b hb,fun k x hx=>by
  obtain ⟨cs,h1,h2,h3⟩:=hr k x hx;exact ⟨cs,h1,hR cs x h2,h3⟩⟩
end
end Go.Proofs.YtjkimieapfbhbaaGreatDoor
