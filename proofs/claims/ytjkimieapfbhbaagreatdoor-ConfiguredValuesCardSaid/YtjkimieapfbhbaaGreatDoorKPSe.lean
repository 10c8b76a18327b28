/-
 The numbering of publications: a data set of a relay gets the next number; the number of one.
-/
import Derived.Test.YtjkimieapfbhbaaGreatDoorKOwn
import Derived.Test.YtjkimieapfbhbaaGreatDoorKPubP
import Derived.Test.YtjkimieapfbhbaaGreatDoorKRSc
import Derived.Test.YtjkimieapfbhbaaGreatDoorKYb
import Derived.RegionTactic
import Derived.Deep.DeepCutAuto
import Derived.Deep.RegionLaw
import Derived.BigQuiet
set_option maxRecDepth 100000
set_option maxHeartbeats 8000000
open Go.IntKind renaming i64 → u
open Go.Value renaming int → z, string → E, slice → H, agg → J, bool → Q
open Option renaming none → C
open Go.Obj renaming cells → D
open Go.Proofs.Tryz renaming prog → G
open Nat renaming lt_of_lt_of_le → I, le_refl → R, le_of_lt → V, lt_succ_self → Y
open List renaming mem_of_getElem? → M, getElem?_append_left → Z
open Go.World renaming cell? → O, cell?_of_block → T, size_setCell → X
open Option.some renaming inj → U
namespace Go.Proofs.YtjkimieapfbhbaaGreatDoor
open Go.RowKit
theorem zl9:Maps.Keyed G 168 := Maps.Keyed.of_law (deep_law_gate (by as_aux_lemma=>kernel_rfl) (by decide +kernel) (by decide +kernel) (by as_aux_lemma=>kernel_rfl) (by as_aux_lemma=>kernel_rfl))
theorem dsKeyT : Tryz.prog.keyType 168 = true:=by kernel_rfl
theorem zjG : Tryz.prog.cellsOf 168 = 2:=by kernel_rfl
theorem zk7 : Tryz.prog.cellsOf 3 = 1:=by kernel_rfl
theorem zhw (d:Nat) (n:Int) (h:(Lit.int .i64 n).wf=true) : Tryz.prog.keyLits (d+1) 3 [.int .i64 n]=some [.int .i64 n]:=by
 simp only [Program.keyLits,Tryz.underlying3,h,and_self,if_true]
theorem zjH (r s:Nat) (hr:r<1000) (hs:s<1000) : Tryz.prog.keyLits (Tryz.prog.types.size+1) 168 [.int .i64 (r:Int),.int .i64 (s:Int)]=some [.int .i64 (r:Int),.int .i64 (s:Int)]:=by
 have w1:(Lit.int .i64 (r:Int)).wf=true:=WalkArith.wf_i64 (by omega);have w2:(Lit.int .i64 (s:Int)).wf=true:=WalkArith.wf_i64 (by omega);have hsz:1 ≤ Tryz.prog.types.size:=by decide +kernel
 have hk:∀ d:Nat,Tryz.prog.keyLits (d+2) 168 [.int .i64 (r:Int),.int .i64 (s:Int)]=some [.int .i64 (r:Int),.int .i64 (s:Int)]:=by
  intro d;unfold Program.keyLits;simp only [Tryz.underlying168,zjG];simp [zk7,zhw,w1,w2]
 rw [show Tryz.prog.types.size+1=(Tryz.prog.types.size-1)+2 by omega];exact hk _
theorem zl8 (r s:Nat) (hr:r<1000) (hs:s<1000):keyOf G 168 (.agg #[.int .i64 (r:Int),.int .i64 (s:Int)])=some (keyL r s):=by
 have hf:Value.formed G 168 (J #[z u (r:Int),z u (s:Int)])=true:=by
  unfold Value.formed;simp only [Tryz.underlying168,zjG]
  rfl
 unfold keyOf;simp only [Tryz.underlying168,dsKeyT,hf,Bool.true_and,if_true];have hc:(Value.agg #[z u (r:Int),z u (s:Int)]).cells.toList=[z u (r:Int),z u (s:Int)]:=rfl;rw [hc,zjH r s hr hs]
 rfl
theorem zk9 {r s r' s':Nat} (hr:r<1000) (hs:s<1000) (hr':r'<1000) (hs':s'<1000) (h:keyL r s=keyL r' s'):r=r'∧s=s':=by
 unfold keyL at h;have:=keyLits_inj (zjH r s hr hs) (zjH r' s' hr' hs') (by injection h);simp at this
 omega
theorem zlh:NumF [] (fun _=>C):=fun r s _ _=>by simp [zca]
theorem zgC {L:List PubE} {F:Lit→Option Value} {a:PubE} (h:NumF L F) (hr:a.relay<1000) (hs:a.set<1000) (hn:zca L a.relay a.set=C):NumF (L++[a]) (putL F (keyL a.relay a.set) (.int .i64 (L.length:Int))):=by
 classical
 intro r s hr' hs';unfold putL
 by_cases e:keyL r s=keyL a.relay a.set
 · obtain ⟨rfl,rfl⟩:=zk9 hr' hs' hr hs e
   rw [if_pos rfl,zeA hn]
   rfl
 · rw [if_neg e,zd6 (fun q=>e (by rw [q.1,q.2]))]
   exact h r s hr' hs'
structure CpB (W:World) (g:Nat) (a0 a1 a2 a3 a4 a5:Value) (nm:Option Nat) (v7 v8:Value):Prop where
 heap:W.heap[g]? = some (.cells #[a0,a1,a2,a3,a4,a5,.map nm,v7,v8] 131 (0,0))
section
variable {W W' : World} {g : Nat} {a0 a1 a2 a3 a4 a5 : Value} {nm : Option Nat} {v7 v8 : Value}
theorem CpB.lt (h:CpB W g a0 a1 a2 a3 a4 a5 nm v7 v8):g<W.heap.size:=(Array.getElem?_eq_some_iff.1 h.heap).1
theorem CpB.cells (h:CpB W g a0 a1 a2 a3 a4 a5 nm v7 v8):W.cell? ⟨g,0,C⟩=some a0∧W.cell? ⟨g,1,C⟩=some a1∧W.cell? ⟨g,2,C⟩=some a2∧W.cell? ⟨g,3,C⟩=some a3∧W.cell? ⟨g,4,C⟩=some a4∧W.cell? ⟨g,5,C⟩=some a5∧W.cell? ⟨g,6,C⟩=some (.map nm)∧W.cell? ⟨g,7,C⟩=some v7∧W.cell? ⟨g,8,C⟩=some v8:=by
 have hh:=h.heap;exact ⟨by simp [O,hh],by simp [O,hh],by simp [O,hh],by simp [O,hh],by simp [O,hh],by simp [O,hh],by simp [O,hh],by simp [O,hh],by simp [O,hh]⟩
theorem CpB.free (h:CpB W g a0 a1 a2 a3 a4 a5 nm v7 v8) (k:Nat):W.frozen? ⟨g,k,C⟩=false:=by
 have hh:=h.heap;simp [World.frozen?,hh]
theorem CpB.kept (h:CpB W g a0 a1 a2 a3 a4 a5 nm v7 v8) (hb:W'.heap[g]? = W.heap[g]?):CpB W' g a0 a1 a2 a3 a4 a5 nm v7 v8:=⟨hb.trans h.heap⟩
theorem CpB.set6 (h:CpB W g a0 a1 a2 a3 a4 a5 nm v7 v8) (m:Option Nat):CpB (W.setCell ⟨g,6,C⟩ (.map m)) g a0 a1 a2 a3 a4 a5 m v7 v8:=⟨by rw [heap_setCell_same W g 6 _ _ _ h.heap];rfl⟩
theorem CpB.set7 (h:CpB W g a0 a1 a2 a3 a4 a5 nm v7 v8) (v:Value):CpB (W.setCell ⟨g,7,C⟩ v) g a0 a1 a2 a3 a4 a5 nm v v8:=⟨by rw [heap_setCell_same W g 7 _ _ _ h.heap];rfl⟩
theorem CpB.set8 (h:CpB W g a0 a1 a2 a3 a4 a5 nm v7 v8) (v:Value):CpB (W.setCell ⟨g,8,C⟩ v) g a0 a1 a2 a3 a4 a5 nm v7 v:=⟨by rw [heap_setCell_same W g 8 _ _ _ h.heap];rfl⟩
end
def NumS (W:World) (g:Nat) (nm:Option Nat) (L:List PubE):Prop:=
 (nm=C∧L=[])∨∃ m F,nm=some m∧m≠g∧MapL G 168 3 W m L.length F∧NumF L F
theorem NumS.kept {W W':World} {g:Nat} {nm:Option Nat} {L:List PubE} (h:NumS W g nm L) (hb:∀ m,nm=some m→W'.heap[m]? = W.heap[m]?):NumS W' g nm L:=by
 rcases h with h | ⟨m,F,e,h1,h2,h3⟩
 · exact .inl h
 · exact .inr ⟨m,F,e,h1,h2.kept (hb m e),h3⟩
theorem NumS.lt {W:World} {g:Nat} {nm:Option Nat} {L:List PubE} (h:NumS W g nm L):∀ m,nm=some m→m<W.heap.size∧m≠g:=by
 intro m hm
 rcases h with ⟨h,-⟩ | ⟨m',F,e,h1,h2,h3⟩
 · rw [h] at hm;cases hm
 · rw [e] at hm;cases hm;exact ⟨h2.block,h1⟩
theorem cell?_set_other (w:World) (g i b o:Nat) (v:Value) (h:b≠g):(w.setCell ⟨g,i,C⟩ v).cell? ⟨b,o,C⟩=w.cell? ⟨b,o,C⟩:=
 T (a:=⟨b,o,C⟩) (heap_setCell_other w ⟨g,i,C⟩ b v h)
theorem zh5 {w:World} {cs:List Value} {t:TypeId} {k g:Nat} {v:Value} (hg:g=w.heap.size) (h:cs[k]? = some v):(w.alloc (D cs.toArray t)).cell? ⟨g,k,C⟩=some v:=by
 subst hg;exact zaI h
def zlD (g:Nat) (a0 a1 a2 a3 a4 a5 v7 v8:Value) (nm:Option Nat) (L:List PubE) (a:PubE) (w:World) (e:Ending) (w':World):Prop:=
 e = .returned (z u (L.length:Int))∧∃ nm',CpB w' g a0 a1 a2 a3 a4 a5 nm' v7 v8∧NumS w' g nm' (L++[a])∧(∀ m,nm'=some m→nm=some m∨w.heap.size≤m)∧KB (fun b=>b=g∨nm=some b) w w'
theorem zjr (g:Nat) (a0 a1 a2 a3 a4 a5 v7 v8:Value) (nm:Option Nat) (L:List PubE) (a:PubE) (w:World) (h:CpB w g a0 a1 a2 a3 a4 a5 nm v7 v8) (hN:NumS w g nm L) (hl:L.length≤1000) (hr:a.relay<1000) (hs:a.set<1000) (hn:zca L a.relay a.set=C) :
 Calls G 75 #[.pointer (some ⟨g,6,C⟩),J #[z u (a.relay:Int),z u (a.set:Int)]] w (zlD g a0 a1 a2 a3 a4 a5 v7 v8 nm L a w):=by
 have hb:=zaa w (D #[z u (a.relay:Int),z u (a.set:Int)] 168);have hgl:=h.lt;have h1:=h.kept (hb.block g hgl);have HK:=Hd (zl8 a.relay a.set hr hs);have HN:=Hd hn;have hgl1:=h1.lt
 rcases hN with ⟨rfl,rfl⟩ | ⟨m,F,rfl,hmg,hm,hF⟩
 · have hmm := @run_makeMap G
   have heq:∀ W:World,(binOp BinOp.eql 127 (.map C) (.map C)).run G W = .ok (Q true) W:=fun _=>by kernel_rfl
   have hsz:((w.setCell ⟨g,6,C⟩ (.map (some (w.heap.size+1)))).alloc (D #[z u (a.relay:Int),z u (a.set:Int)] 168)).heap.size=w.heap.size+1:=by simp [X]
   have hm3:MapL G 168 3 (((w.setCell ⟨g,6,C⟩ (.map (some (w.heap.size+1)))).alloc (D #[.int .i64 (a.relay:Int),.int .i64 (a.set:Int)] 168)).alloc (.map #[] 0)) (w.heap.size+1) 0 (fun _=>C):=by
    rw [show (((w.setCell ⟨g,6,C⟩ (.map (some (w.heap.size+1)))).alloc (D #[z u (a.relay:Int),z u (a.set:Int)] 168)).alloc (.map #[] 0))=((w.setCell ⟨g,6,C⟩ (.map (some (w.heap.size+1)))).alloc (D #[z u (a.relay:Int),z u (a.set:Int)] 168)).alloc (.map #[] 0) from rfl]
    have:=MapL.made G 168 3 ((w.setCell ⟨g,6,C⟩ (.map (some (w.heap.size+1)))).alloc (D #[.int .i64 (a.relay:Int),.int .i64 (a.set:Int)] 168))
    rw [hsz] at this
    exact this
   have hs6:g<(w.setCell ⟨g,6,C⟩ (.map (some (w.heap.size+1)))).heap.size:=by rw [X];exact hgl
   have h3:CpB (((w.setCell ⟨g,6,C⟩ (.map (some (w.heap.size+1)))).alloc (D #[z u (a.relay:Int),z u (a.set:Int)] 168)).alloc (.map #[] 0)) g a0 a1 a2 a3 a4 a5 (some (w.heap.size+1)) v7 v8:=((h.set6 (some (w.heap.size+1))).kept (Below.heap_alloc _ _ _ hs6)).kept (Below.heap_alloc _ _ _ (by simp;omega))
   obtain ⟨-,-,-,-,-,-,d6,-,-⟩:=h1.cells
   have f6:=h1.free 6
   obtain ⟨-,-,-,-,-,-,e6,-,-⟩:=h3.cells
   have HB:KB (fun b=>b=g∨C=some b) w (((w.setCell ⟨g,6,C⟩ (.map (some (w.heap.size+1)))).alloc (D #[z u (a.relay:Int),z u (a.set:Int)] 168)).alloc (.map #[] 0)):=(((KB.refl _ w).set 6 _ (.inl rfl)).alloc _).alloc _
   have k0:(((w.setCell ⟨g,6,C⟩ (.map (some (w.heap.size+1)))).alloc (D #[z u (a.relay:Int),z u (a.set:Int)] 168)).alloc (.map #[] 0)).cell? ⟨w.heap.size,0,C⟩=some (z u (a.relay:Int)):=by
    rw [cell?_alloc_old _ _ _ _ (by simp)]
    exact zh5 (cs:=[z u (a.relay:Int),z u (a.set:Int)]) (by rw [X]) rfl
   have k1:(((w.setCell ⟨g,6,C⟩ (.map (some (w.heap.size+1)))).alloc (D #[z u (a.relay:Int),z u (a.set:Int)] 168)).alloc (.map #[] 0)).cell? ⟨w.heap.size,1,C⟩=some (z u (a.set:Int)):=by
    rw [cell?_alloc_old _ _ _ _ (by simp)]
    exact zh5 (cs:=[z u (a.relay:Int),z u (a.set:Int)]) (by rw [X]) rfl
   have g3:w.heap.size<(((w.setCell ⟨g,6,C⟩ (.map (some (w.heap.size+1)))).alloc (D #[z u (a.relay:Int),z u (a.set:Int)] 168)).alloc (.map #[] 0)).heap.size:=by simp;omega
   have gg3:=h3.lt
   have hgm:w.heap.size+1≠g:=by omega
   have hgm2:w.heap.size≤w.heap.size+1:=by omega
   have HKB:=Hd HB
   have H3:=Hd h3
   have HM3:=Hd hm3
   clear h h1 hb h3 hm3 HB hsz hs6
   go_enter Tryz.func75,Tryz.ntmps75
   go_upto_region 3 with fail
   clear hmm heq d6 f6
   generalize (((w.setCell ⟨g,6,C⟩ (.map (some (w.heap.size+1)))).alloc (D #[z u (a.relay:Int),z u (a.set:Int)] 168)).alloc (.map #[] 0))=W3 at *
   generalize w.heap.size+1=m at *
   have hlen:=HM3.out.len (t := 127) Tryz.underlying127 3
   obtain ⟨w',hup,hm',hg⟩:=(HM3.out.kept (w':=W3.drew) rfl).store (t := 127) zl9 Tryz.underlying127 (by unfold maxLen;omega) HK.out rfl (plainElem_int Tryz.underlying3 (WalkArith.wf_i64 (n:=0) (by omega)))
   have HG:=Hd hg
   have HM:=Hd hm'
   clear hm' hg
   go_wp2
   go_region
   go_wp2
   go_ret
   have hgr:=HG.out.block g gg3 (fun q=>hgm (U q).symm)
   refine ⟨rfl,some m,H3.out.kept hgr,.inr ⟨m,_,rfl,hgm,HM.out,zgC zlh hr hs HN.out⟩,fun q e => .inr (by cases e;exact hgm2),?_⟩
   refine ⟨HG.out.os.trans HKB.out.os,HG.out.tape.trans HKB.out.tape,HG.out.output.trans HKB.out.output,Nat.le_trans HKB.out.size HG.out.size,fun b hb hn => ?_⟩
   have hb3:b<W3.heap.size:=I hb HKB.out.size
   have hbm:b≠m:=by omega
   exact (HG.out.block b hb3 (fun q=>hbm (U q))).trans (HKB.out.block b hb hn)
 · have hn0:F (keyL a.relay a.set)=C:=by rw [hF _ _ hr hs,hn];rfl
   have hm1:=hm.below hb hm.block
   have hml:=hm.block
   obtain ⟨w',hup,hm',hg⟩:=(hm1.kept (w':=(w.alloc (D #[z u (a.relay:Int),z u (a.set:Int)] 168)).drew) rfl).store (t := 127) zl9 Tryz.underlying127 (by unfold maxLen;omega) (zl8 a.relay a.set hr hs) hn0 (plainElem_int Tryz.underlying3 (WalkArith.wf_i64 (n:=(L.length:Int)) (by omega)))
   have hlen:=hm1.len (t := 127) Tryz.underlying127 3
   have heq:∀ W:World,(binOp BinOp.eql 127 (.map (some m)) (.map C)).run G W = .ok (Q false) W:=fun _=>by kernel_rfl
   obtain ⟨-,-,-,-,-,-,d6,-,-⟩:=h1.cells
   have H1:=Hd h1
   have HG:=Hd hg
   have HM:=Hd hm'
   have HF:=Hd hF
   have HB:=Hd hb
   clear h h1 hb hn hn0 hm hm1 hm' hg hF
   go_enter Tryz.func75,Tryz.ntmps75
   go_wp2
   go_region
   go_wp2
   go_ret
   refine ⟨rfl,some m,H1.out.kept (HG.out.block g hgl1 (fun q=>hmg (U q).symm)),.inr ⟨m,_,rfl,hmg,by rw [List.length_append];exact HM.out,zgC HF.out hr hs HN.out⟩,fun _ e => .inl e,?_⟩
   exact (KB.of_below HB.out).drew.trans (KB.of_grown HG.out (fun b _ e => .inr e))
theorem zlC (w:World):(zeroValue 3).run G w = .ok (z u 0) w:=by kernel_rfl
theorem zli (g:Nat) (a0 a1 a2 a3 a4 a5 v7 v8:Value) (nm:Option Nat) (L:List PubE) (r s n:Nat) (w:World) (h:CpB w g a0 a1 a2 a3 a4 a5 nm v7 v8) (hN:NumS w g nm L) (hr:r<1000) (hs:s<1000) (hn:zca L r s=some n) :
 Calls G 77 #[.pointer (some ⟨g,6,C⟩),J #[z u (r:Int),z u (s:Int)]] w (zaU (n:Int) w):=by
 have hb:=zaa w (D #[z u (r:Int),z u (s:Int)] 168);have hgl:=h.lt;have h1:=h.kept (hb.block g hgl);have hgl1:=h1.lt
 rcases hN with ⟨rfl,rfl⟩ | ⟨m,F,rfl,hmg,hm,hF⟩
 · simp [zca] at hn
 · have hv:F (keyL r s)=some (.int .i64 (n:Int)):=by rw [hF r s hr hs,hn];rfl
   have hm1:=hm.below hb hm.block
   have hlk:∀ q:Nat,(Instr.lookup 127 (.map (some m)) (J #[z u (r:Int),z u (s:Int)]) false).run G ((w.alloc (D #[z u (r:Int),z u (s:Int)] 168)).drewN q) = .ok (z u (n:Int)) ((w.alloc (D #[z u (r:Int),z u (s:Int)] 168)).drewN q):=by
    intro q
    rw [(hm1.kept (w':=(w.alloc (D #[z u (r:Int),z u (s:Int)] 168)).drewN q) rfl).look (t := 127) zl9 Tryz.underlying127 (zlC _) (zl8 r s hr hs) false,hv]
    rfl
   obtain ⟨-,-,-,-,-,-,d6,-,-⟩:=h1.cells
   have k0:(w.alloc (D #[z u (r:Int),z u (s:Int)] 168)).cell? ⟨w.heap.size,0,C⟩=some (z u (r:Int)):=by simp
   have k1:(w.alloc (D #[z u (r:Int),z u (s:Int)] 168)).cell? ⟨w.heap.size,1,C⟩=some (z u (s:Int)):=by simp
   have k2:w.heap.size<(w.alloc (D #[z u (r:Int),z u (s:Int)] 168)).heap.size:=by simp
   clear h h1 hn hm hm1 hF hv
   go_enter Tryz.func77,Tryz.ntmps77
   go_upto_region 1 with fail
   generalize w.alloc (D #[z u (r:Int),z u (s:Int)] 168)=W at *
   go_quiet (fail)
   go_wp2
   go_ret
   exact ⟨rfl,zag hb _⟩
def Inj (l:List (Option Nat)):Prop:=∀ (i j b:Nat),l[i]? = some (some b)→l[j]? = some (some b)→i=j
structure Frm (n:Nat) (K:Nat→Prop) (l:List (Option Nat)):Prop where
 inj:Inj l
 lt:∀ b,some b∈l→b<n
 kl:∀ b,K b→b<n∧some b ∉ l
section
variable {n n' i j : Nat} {K : Nat → Prop} {l : List (Option Nat)} {o p : Option Nat}
theorem Frm.mono (h:Frm n K l) (hn:n≤n'):Frm n' K l:=⟨h.inj,fun b hb=>I (h.lt b hb) hn,fun b hb=>⟨I (h.kl b hb).1 hn,(h.kl b hb).2⟩⟩
theorem Frm.ne (h:Frm n K l) (hij:i≠j) (hi:l[i]? = some o) (hj:l[j]? = some p):o=C∨o≠p:=by
 cases o with
 | none=>exact .inl rfl
 | some b=>exact .inr fun q=>hij (h.inj i j b hi (by rw [hj,q]))
theorem Frm.neb (h:Frm n K l) (hij:i≠j) {b:Nat} (hi:l[i]? = some (some b)) (hj:l[j]? = some p):some b≠p:=by
 rcases h.ne hij hi hj with q | q
 · cases q
 · exact q
theorem zdP {x y:Option Nat} (h:x∈l.set i y):x=y∨∃ j,j≠i∧l[j]? = some x:=by
 obtain ⟨j,hj⟩:=List.getElem?_of_mem h;rw [List.getElem?_set] at hj
 split at hj
 · split at hj
   · exact .inl (U hj).symm
   · cases hj
 · exact .inr ⟨j,by omega,hj⟩
theorem Frm.set (h:Frm n K l) (hn:n≤n') (ho:∀ b,o=some b→n≤b∧b<n'):Frm n' K (l.set i o):=by
 refine ⟨fun a c b ha hc => ?_,fun b hb => ?_,fun b hb=>⟨I (h.kl b hb).1 hn,fun q => ?_⟩⟩
 · rw [List.getElem?_set] at ha hc
   by_cases h1:i=a
   · by_cases h2:i=c
     · omega
     · rw [if_pos h1] at ha
       rw [if_neg h2] at hc
       split at ha
       · have:=(ho b (U ha)).1
         have:=h.lt b (M hc)
         omega
       · cases ha
   · rw [if_neg h1] at ha
     by_cases h2:i=c
     · rw [if_pos h2] at hc
       split at hc
       · have:=(ho b (U hc)).1
         have:=h.lt b (M ha)
         omega
       · cases hc
     · rw [if_neg h2] at hc
       exact h.inj a c b ha hc
 · rcases zdP hb with q | ⟨j,-,q⟩
   · exact (ho b q.symm).2
   · exact I (h.lt b (M q)) hn
 · rcases zdP q with q | ⟨j,-,q⟩
   · have:=(ho b q.symm).1
     have:=(h.kl b hb).1
     omega
   · exact (h.kl b hb).2 (M q)
theorem zde (h:l[i]? = some o):l.set i o=l:=by
 apply List.ext_getElem?
 intro j;rw [List.getElem?_set]
 split
 · rename_i q
   subst q
   rw [h,if_pos (List.getElem?_eq_some_iff.1 h).1]
 · rfl
theorem Frm.grow (h:Frm n K l) (hi:l[i]? = some o) (hn:n<n') (hp:p=o∨p=some n):Frm n' K (l.set i p):=by
 rcases hp with rfl | rfl
 · rw [zde hi]
   exact h.mono (V hn)
 · exact h.set (V hn) fun b e=>by cases e;exact ⟨R _,hn⟩
theorem Frm.push (h:Frm n K l) (hn:n≤n') (ho:∀ b,o=some b→n≤b∧b<n'):Frm n' K (l++[o]):=by
 refine ⟨fun a c b ha hc => ?_,fun b hb => ?_,fun b hb=>⟨I (h.kl b hb).1 hn,fun q => ?_⟩⟩
 · have key:∀ a,(l++[o])[a]? = some (some b)→(a<l.length∧l[a]? = some (some b))∨(a=l.length∧o=some b):=by
    intro a ha
    rcases Nat.lt_or_ge a l.length with h1 | h1
    · rw [Z h1] at ha
      exact .inl ⟨h1,ha⟩
    · rw [List.getElem?_append_right h1] at ha
      have hl:=(List.getElem?_eq_some_iff.1 ha).1
      simp at hl
      have:a=l.length:=by omega
      subst this
      simp at ha
      exact .inr ⟨rfl,ha⟩
   rcases key a ha with ⟨-,h1⟩ | ⟨h1,h2⟩ <;> rcases key c hc with ⟨-,h3⟩ | ⟨h3,h4⟩
   · exact h.inj a c b h1 h3
   · have:=(ho b h4).1
     have:=h.lt b (M h1)
     omega
   · have:=(ho b h2).1
     have:=h.lt b (M h3)
     omega
   · omega
 · rcases List.mem_append.1 hb with q | q
   · exact I (h.lt b q) hn
   · simp at q
     exact (ho b q.symm).2
 · rcases List.mem_append.1 q with q | q
   · exact (h.kl b hb).2 q
   · simp at q
     have:=(ho b q.symm).1
     have:=(h.kl b hb).1
     omega
theorem Frm.fresh (h:Frm n K l):Frm (n+1) K (l++[some n]):=h.push (Nat.le_succ _) fun b e=>by cases e;exact ⟨R _,Y _⟩
theorem Frm.nil (h:Frm n K l):Frm n K (l++[C]):=h.push (R _) fun b e=>by cases e
theorem Frm.done (h:Frm n K l) (hi:l[i]? = some o):Frm n (fun b=>K b∨o=some b) (l.set i C):=by
 have h1:=h.set (i:=i) (o:=C) (R _) (fun b e=>by cases e);refine ⟨h1.inj,h1.lt,fun b hb => ?_⟩
 rcases hb with hb | rfl
 · exact h1.kl b hb
 · refine ⟨h.lt b (M hi),fun q => ?_⟩
   rcases zdP q with q | ⟨j,hj,q⟩
   · cases q
   · exact hj (h.inj j i b q hi)
theorem Frm.pop (h:Frm n K (l++[o])):Frm n K l:=
 ⟨fun a c b ha hc=>h.inj a c b (by rw [Z (List.getElem?_eq_some_iff.1 ha).1];exact ha) (by rw [Z (List.getElem?_eq_some_iff.1 hc).1];exact hc),
  fun b hb=>h.lt b (List.mem_append.2 (.inl hb)),fun b hb=>⟨(h.kl b hb).1,fun q=>(h.kl b hb).2 (List.mem_append.2 (.inl q))⟩⟩
theorem Frm.less {K':Nat→Prop} (h:Frm n K l) (hk:∀ b,K' b→K b):Frm n K' l:=⟨h.inj,h.lt,fun b hb=>h.kl b (hk b hb)⟩
theorem Frm.more {K':Nat→Prop} (h:Frm n K l) (hk:∀ b,K' b→K b∨(b<n∧some b ∉ l)):Frm n K' l:=
 ⟨h.inj,h.lt,fun b hb=>(hk b hb).elim (h.kl b) id⟩
theorem Frm.role (h:Frm n K l) {b:Nat} (hi:l[i]? = some (some b)):b<n:=h.lt b (M hi)
theorem Frm.keep {w w':World} (h:Frm w.heap.size K l) (hg:w.grownBy w' o) (hi:l[i]? = some o):KeepOn K w w' :=
 fun b hb=>hg.block b (h.kl b hb).1 (fun q=>(h.kl b hb).2 (by rw [q];exact M hi))
theorem Frm.other {w w':World} {b:Nat} (h:Frm w.heap.size K l) (hg:w.grownBy w' o) (hi:l[i]? = some o) (hij:j≠i) (hj:l[j]? = some (some b)):w'.heap[b]? = w.heap[b]? :=
 hg.block b (h.role hj) (h.neb hij hj hi)
theorem Frm.row {w w':World} {base size k:Nat} {e:TypeId} {v:Value} {xs:List Value} (h:Frm w.heap.size K l) (hg:w.grownBy w' o) (hi:l[i]? = some o) (hij:j≠i) (hj:l[j]? = some v.ownBlock) (hv:w.ownsRow base e size v k xs):w'.ownsRow base e size v k xs:=
 hv.kept hg (h.ne hij hj hi)
end
theorem ziN:(Tryz.prog.info? 122).map (fun i=>(i.zero,i.size,i.bytes))=some (some (J #[E ⟨#[]⟩,z u 0,z u 0,z u 0,z u 0,z u 0]),6,56):=by kernel_rfl
def zbj (xs:List SourceM) (k:Nat):List Value:=(xs.take k).flatMap fun x=>[E x.name,z u x.emf,z u x.r1,z u x.x1,z u x.r0,z u x.x0]
theorem zd8 {xs:List SourceM} {k:Nat} {x:SourceM} (h:xs[k]? = some x):zbj xs (k+1)=zbj xs k++[E x.name,z u x.emf,z u x.r1,z u x.x1,z u x.r0,z u x.x0]:=by
 unfold zbj;rw [List.take_add_one,h];simp
theorem zks (g m:Nat) (S:StatM) (n k:Nat) (v1 v2 v3 v4:Value) (x:SourceM) (w:World) (hmg:m<g) (h:BldS w g m S n v1 v2 v3 v4) (hnn:n=S.buses.length+S.lines.length+k) (ho:w.ownsRow (g+1) 122 6 v3 k (zbj S.sources k)) (hk:k≤4) (hn4:n≤100) (hx:S.sources[k]? = some x) (hn:NameOk x.name) (hs:seen S.names n x.name=false) (hf:zel x) :
 Calls G 98 #[.pointer (some ⟨g,0,C⟩),J #[E x.name,z u x.emf,z u x.r1,z u x.x1,z u x.r0,z u x.x0]] w (zhZ g m m 122 6 S (n+1) (k+1) (zbj S.sources (k+1)) (fun v=>(v1,v2,v,v4)) w):=by
 have hsz:x.name.size≤maxLen:=by have:=hn.len;unfold maxLen;omega
 have hb:=zaa w (D #[E x.name,z u x.emf,z u x.r1,z u x.x1,z u x.r0,z u x.x0] 122);have hgl:=h.lt;have hml:=h.map.block;have h0:=h.below hb hgl hml;have ho0:=zab ho hb (R _);have c0:(w.alloc (D #[E x.name,z u x.emf,z u x.r1,z u x.x1,z u x.r0,z u x.x0] 122)).cell? ⟨w.heap.size,0,C⟩=some (E x.name):=by simp
 have c1:(w.alloc (D #[E x.name,z u x.emf,z u x.r1,z u x.x1,z u x.r0,z u x.x0] 122)).cell? ⟨w.heap.size,1,C⟩=some (z u x.emf):=by simp
 have c2:(w.alloc (D #[E x.name,z u x.emf,z u x.r1,z u x.x1,z u x.r0,z u x.x0] 122)).cell? ⟨w.heap.size,2,C⟩=some (z u x.r1):=by simp
 have c3:(w.alloc (D #[E x.name,z u x.emf,z u x.r1,z u x.x1,z u x.r0,z u x.x0] 122)).cell? ⟨w.heap.size,3,C⟩=some (z u x.x1):=by simp
 have c4:(w.alloc (D #[E x.name,z u x.emf,z u x.r1,z u x.x1,z u x.r0,z u x.x0] 122)).cell? ⟨w.heap.size,4,C⟩=some (z u x.r0):=by simp
 have c5:(w.alloc (D #[E x.name,z u x.emf,z u x.r1,z u x.x1,z u x.r0,z u x.x0] 122)).cell? ⟨w.heap.size,5,C⟩=some (z u x.x0):=by simp
 have hg0:w.heap.size<(w.alloc (D #[E x.name,z u x.emf,z u x.r1,z u x.x1,z u x.r0,z u x.x0] 122)).heap.size:=by simp
 obtain ⟨f0,f1,f2⟩:=hf;have H0:=Hd h0;have HO:=Hd ho0;have HN:=Hd hn;have HS:=Hd hs;have HX:=Hd hx;have HNN:=Hd hnn;have HF:=Hd (And.intro f1 f2);have HF0:=Hd f0;clear h ho h0 ho0 hn hs hx hnn f0 f1 f2;go_enter Tryz.func98,Tryz.ntmps98;go_wp2_with fail
 generalize w.alloc (D #[E x.name,z u x.emf,z u x.r1,z u x.x1,z u x.r0,z u x.x0] 122)=W at *;refine (zed g m S n v1 v2 v3 v4 x.name _ H0.out HN.out HS.out).mono ?_
 rintro e w1 ⟨rfl,rfl⟩
 go_wp2_with (first
  | (go_at_call 131;(with_reducible refine (zbm x.emf 1 1000000 HF0.out _).mono ?_);rintro e w' ⟨rfl,rfl⟩)
  | (go_at_call 130;(with_reducible refine (zgy x.r1 x.x1 HF.out.1 _).mono ?_);rintro e w2 ⟨rfl,j2⟩;obtain ⟨hc2,hf2⟩:=zcv j2;have g2:w.heap.size<w2.heap.size:=I hg0 j2.size)
  | (go_at_call 130;(with_reducible refine (zgy x.r0 x.x0 HF.out.2 _).mono ?_);rintro e w3 ⟨rfl,j3⟩))
 have hw3:=Below.then j2 j3
 have HB3:=Hd (Below.then hb hw3);have HJ3:=Hd hw3;obtain ⟨d0,d1,d2,d3,d4,d5⟩:=kb6 hw3 hg0 ⟨c0,c1,c2,c3,c4,c5⟩;have g3:w.heap.size<w3.heap.size:=I hg0 hw3.size;have h3:=H0.out.below hw3 (by have:=hb.size;omega) (by have:=hb.size;omega);obtain ⟨w4,hup,hm4,hg4⟩:=h3.map.drew.store (t := 233) Tryz.underlying9 Tryz.underlying233 (by unfold maxLen;omega) hsz (plainElem_bool Tryz.underlying4 true);obtain ⟨b1,b2,b3,b4,b5⟩:=h3.cells;have gg3:=h3.lt;have H3:=Hd h3;have HM3:=Hd h3.map.drew;have HM4:=Hd hm4;have HG4:=Hd hg4;clear hc2 hf2 g2 j2 j3 c0 c1 c2 c3 c4 c5 hw3 h3 hm4 hg4;go_region
 have h4:BldS w4 g m S (n+1) v1 v2 v3 v4:=BldS.put (W:=w3.drew) ⟨H3.out.heap,H3.out.ne,H3.out.map.drew⟩ (by rw [HNN.out];exact zdA HX.out) HM4.out HG4.out;have ho4:w4.ownsRow (g+1) 122 6 v3 k (zbj S.sources k):=zb0 (w:=w3.drew) ((zab HO.out HJ3.out (R _)).drew) HG4.out (by omega);obtain ⟨A2,cc2,rfl,-,-⟩:=zac ho4;obtain ⟨b1,b2,b3,b4,b5⟩:=h4.cells;have gg4:=h4.lt;have gw4:w.heap.size<w4.heap.size:=I g3 HG4.out.size;have hne:w.heap.size≠m:=by omega
 have e0:w4.cell? ⟨w.heap.size,0,C⟩=some (E x.name):=(T (a:=⟨w.heap.size,0,C⟩) (HG4.out.block w.heap.size g3 (fun q=>by injection q;omega))).trans d0;have e1:w4.cell? ⟨w.heap.size,1,C⟩=some (z u x.emf):=(T (a:=⟨w.heap.size,1,C⟩) (HG4.out.block w.heap.size g3 (fun q=>by injection q;omega))).trans d1;have e2:w4.cell? ⟨w.heap.size,2,C⟩=some (z u x.r1):=(T (a:=⟨w.heap.size,2,C⟩) (HG4.out.block w.heap.size g3 (fun q=>by injection q;omega))).trans d2;have e3:w4.cell? ⟨w.heap.size,3,C⟩=some (z u x.x1):=(T (a:=⟨w.heap.size,3,C⟩) (HG4.out.block w.heap.size g3 (fun q=>by injection q;omega))).trans d3;have e4:w4.cell? ⟨w.heap.size,4,C⟩=some (z u x.r0):=(T (a:=⟨w.heap.size,4,C⟩) (HG4.out.block w.heap.size g3 (fun q=>by injection q;omega))).trans d4;have e5:w4.cell? ⟨w.heap.size,5,C⟩=some (z u x.x0):=(T (a:=⟨w.heap.size,5,C⟩) (HG4.out.block w.heap.size g3 (fun q=>by injection q;omega))).trans d5;obtain ⟨ti,hti,hzi⟩:=Option.map_eq_some_iff.1 ziN;obtain ⟨hz0,hz1,hz2⟩:ti.zero=some (J #[E ⟨#[]⟩,z u 0,z u 0,z u 0,z u 0,z u 0])∧ti.size=6∧ti.bytes=56:=by simpa using hzi
 have HTI:=Hd (And.intro hti (And.intro hz0 (And.intro hz1 hz2)));have HOW:=Hd (show ((w4.alloc (D #[E x.name,z u x.emf,z u x.r1,z u x.x1,z u x.r0,z u x.x0] 122)).drew).ownsRow (g+1) 122 6 (H A2 k cc2) k (zbj S.sources k) from ho4.drew.alloc _);have HSR:=Hd (show Src ((w4.alloc (D #[E x.name,z u x.emf,z u x.r1,z u x.x1,z u x.r0,z u x.x0] 122)).drew) 6 (some ⟨w4.heap.size,0,C⟩) 1 [E x.name,z u x.emf,z u x.r1,z u x.x1,z u x.r0,z u x.x0] from za5 w4.drew [E x.name,z u x.emf,z u x.r1,z u x.x1,z u x.r0,z u x.x0] 122 6 1 rfl);have HH4:=Hd h4;have HO4:=Hd ho4;clear hti hzi hz0 hz1 hz2 h4 ho4 d0 d1 d2 d3 d4 d5 hup;go_upto_region 7 with fail
 go_region_law ((refine zai (o:=⟨some 43,_,_,_,_,_⟩) (w:=(w4.alloc (D #[E x.name,z u x.emf,z u x.r1,z u x.x1,z u x.r0,z u x.x0] 122)).drew) _ _ 24 rfl rfl Tryz.underlying24 HTI.out.1 HTI.out.2.1 HTI.out.2.2.1 HTI.out.2.2.2 rfl (by decide) rfl HOW.out rfl HSR.out (by simp [Value.oneCell']) (by unfold maxLen;omega) (by omega) (by simp;omega) ?_;intro v6 w6 hown6 hg6 hv6;have hb6:=HH4.out.after hmg HO4.out (Y g) hg6;have l6:=hb6.lt;have f6:=hb6.free 3;obtain ⟨-,-,x6,-,-⟩:=hb6.cells;have HB6:=Hd hb6;have HW6:=Hd hown6;have HG6:=Hd hg6;obtain ⟨A6,k6,hv6e,-,-⟩:=zac hown6;clear hb6 hown6 hg6 hv6;subst hv6e))
 all_goals
  go_wp2;go_ret
  refine ⟨H A6 (k+1) k6,rfl,⟨?_,HB6.out.ne,?_⟩,?_,?_⟩
  · rw [heap_setCell_same w6 g 3 _ _ _ HB6.out.heap]
    rfl
  · exact HB6.out.map.kept ((zb2 w6 g 3 _).block m HB6.out.map.block (fun q=>by injection q;omega))
  · exact zb0 (by rw [zd8 HX.out];exact HW6.out) (zb2 w6 g 3 _) (Y g)
  · refine Below.setCell ?_ (V hmg) _
    exact (((HB3.out.mono (by omega)).drew).trans (zaO HG4.out (V HM3.out.block))).trans (zdk HO4.out (by omega) (V HH4.out.map.block) HG6.out)
theorem zkf {P:Program} {f:FuncId} {args:Array Value} {w:World} {n:Nat} {v:Value}
 (h:Calls P f args (w.drewN n) fun e w'=>e = .returned v∧w.drewN n=w'):Calls P f args (w.drewN n) fun e w''=>e = .returned v∧∃ m,w''=w.drewN m:=
 h.mono fun _ _ ⟨he,hm⟩=>⟨he,n,hm.symm⟩
def Bls (B:Nat) (W:World) (x:BayM) (i:Value) (wr:World):Prop:=∃ k:Nat,k≤x.links.length∧i = z u k∧Below B W wr
theorem zlb (g m:Nat) (S:StatM) (n:Nat) (A1:Option Addr) (c1:Nat) (v2 v3 v4:Value) (x:BayM) (A:Option Addr) (c B:Nat) (w:World) (hB:B≤w.heap.size) (h:BldS w g m S n (H A1 S.buses.length c1) v2 v3 v4)
 (hR:Rws LinkC 2 w B A x.links.length x.links) (hF:LinksF S.buses.length x) (hnb:S.buses.length≤4) :
 Calls G 133 #[.pointer (some ⟨g,0,C⟩),J #[E x.name,z u x.kind,z u x.ofi,z u x.en,z u x.zr,z u x.zx,H A x.links.length c,Q x.closed,z u x.ct,z u x.vt,z u x.sat,z u x.travel]] w fun e w'=>e = .returned (z u 0)∧Below w.heap.size w w':=by
 have HR:=Hd hR;have HF:=Hd hF
 have hk:((x.kind == 3)=true∧((x.links.length:Int) != 2)=false)∨(x.kind == 3)=false:=by
  rw [beq_iff_eq,beq_eq_false_iff_ne,bne_eq_false_iff_eq]
  by_cases h3:x.kind=3
  · exact .inl ⟨h3,by have:=hF.two h3;omega⟩
  · exact .inr h3
 have hn:=hF.n;have hb:=zaa w (D #[E x.name,z u x.kind,z u x.ofi,z u x.en,z u x.zr,z u x.zx,H A x.links.length c,Q x.closed,z u x.ct,z u x.vt,z u x.sat,z u x.travel] 113);have q0:=(hb.cell (p:=⟨g,1,C⟩) h.lt).trans h.cells.1;have q2:(w.alloc (D #[E x.name,z u x.kind,z u x.ofi,z u x.en,z u x.zr,z u x.zx,H A x.links.length c,Q x.closed,z u x.ct,z u x.vt,z u x.sat,z u x.travel] 113)).cell? ⟨w.heap.size,1,C⟩=some (z u x.kind):=by simp
 have q3:(w.alloc (D #[E x.name,z u x.kind,z u x.ofi,z u x.en,z u x.zr,z u x.zx,H A x.links.length c,Q x.closed,z u x.ct,z u x.vt,z u x.sat,z u x.travel] 113)).cell? ⟨w.heap.size,6,C⟩=some (H A x.links.length c):=by simp
 have hsz:(w.alloc (D #[E x.name,z u x.kind,z u x.ofi,z u x.en,z u x.zr,z u x.zx,H A x.links.length c,Q x.closed,z u x.ct,z u x.vt,z u x.sat,z u x.travel] 113)).heap.size=w.heap.size+1:=by simp
 have hgl:=h.lt;have HSZ:=Hd hsz;clear hsz h hR hF
 rcases hk with ⟨hk,hl2⟩ | hk
 all_goals
  go_enter Tryz.func133,Tryz.ntmps133;go_wp2;generalize w.alloc (D #[E x.name,z u x.kind,z u x.ofi,z u x.en,z u x.zr,z u x.zx,H A x.links.length c,Q x.closed,z u x.ct,z u x.vt,z u x.sat,z u x.travel] 113)=W at *
  go_loopw [29] (Bls W.heap.size W x) (fun i _=>x.links.length-(intOf i).toNat)
  case atStart=>exact ⟨0,Nat.zero_le _,rfl,Below.refl _ _⟩
  case round =>
   obtain ⟨k,hkl,rfl,hbel⟩:=hrel;have hsz:=HSZ.out;have p1:=(hbel.cell (p:=⟨g,1,C⟩) (by show g<_;omega)).trans q0;have p2:=(hbel.cell (p:=⟨w.heap.size,1,C⟩) (by show w.heap.size<_;omega)).trans q2;have p3:=(hbel.cell (p:=⟨w.heap.size,6,C⟩) (by show w.heap.size<_;omega)).trans q3;have hw:=Below.then hb hbel
   have hs2:=hbel.size;have g0:w.heap.size<wr.heap.size:=by omega
   have g1:g<wr.heap.size:=by omega
   clear hsz q0 q2 q3
   by_cases hlt:k<x.links.length
   · have hr:=HR.out.mono LinkC.mono (R _) (hw.mono hB)
     rcases Nat.eq_zero_or_pos k with rfl | hp
     · obtain ⟨b,o,cs,l,rfl,hbB,hx,-,rfl,hat⟩:=hr.at_ hlt
       have c0:wr.cell? ⟨b,o,C⟩=some (z u l.1):=by simpa using hat 0 _ rfl
       have c1:wr.cell? ⟨b,o+1,C⟩=some (z u l.2):=by simpa using hat 1 _ rfl
       have HX:=Hd hx
       have hb':b<wr.heap.size:=by have:=hw.size;omega
       clear hr hat hx
       have hdec:(l.2 != 1)=false∨((l.2 != 1)=true∧(l.2 != 0)=false∧(x.kind == 3)=false):=by
        have:=(HF.out.each _ _ HX.out).2
        rw [bne_eq_false_iff_eq,bne_eq_false_iff_eq,bne_iff_ne,beq_eq_false_iff_ne];omega
       have HB0:=Hd (HF.out.each _ _ HX.out).1
       rcases hdec with hd | ⟨hd,hd2,hd3⟩
       all_goals first
       | exact absurd (hk.symm.trans hd3) (by decide)
       | skip
       all_goals
        go_wp2
        go_quiet ((go_at_call 131;first | exact zkf (zbm l.1 0 (S.buses.length-1) ⟨HB0.out.1,by have:=HB0.out.2;omega⟩ _) | exact zbZ (zbm l.1 0 (S.buses.length-1) ⟨HB0.out.1,by have:=HB0.out.2;omega⟩ _)))
        go_wp2
        go_quiet (fail)
        go_wp2
        go_roundw
        case rel=>exact ⟨1,by omega,by go_num,zag (hbel.alloc hs2 _) _⟩
        case measure=>simp [intOf];omega
     · obtain rfl:k=1:=by omega
       obtain ⟨b,o,cs,m',rfl,hbB,hm,-,rfl,hat0⟩:=hr.at_ (k:=0) (by omega)
       obtain ⟨b',o',cs,l,e',-,hx,-,rfl,hat⟩:=hr.at_ (k:=1) hlt
       cases e'
       have c0:wr.cell? ⟨b,o,C⟩=some (z u m'.1):=by simpa using hat0 0 _ rfl
       have c2:wr.cell? ⟨b,o+2,C⟩=some (z u l.1):=by simpa using hat 0 _ rfl
       have c3:wr.cell? ⟨b,o+2+1,C⟩=some (z u l.2):=by simpa using hat 1 _ rfl
       have hq:(m'.1 == l.1)=false:=by rw [beq_eq_false_iff_ne];exact fun q=>HF.out.apart l m' hm hx q.symm
       have HX:=Hd hx
       have hb':b<wr.heap.size:=by have:=hw.size;omega
       clear hr hat hat0 hx hm
       have hdec:(l.2 != 1)=false∨((l.2 != 1)=true∧(l.2 != 0)=false∧(x.kind == 3)=false):=by
        have:=(HF.out.each _ _ HX.out).2
        rw [bne_eq_false_iff_eq,bne_eq_false_iff_eq,bne_iff_ne,beq_eq_false_iff_ne];omega
       have HB0:=Hd (HF.out.each _ _ HX.out).1
       rcases hdec with hd | ⟨hd,hd2,hd3⟩
       all_goals first
       | exact absurd (hk.symm.trans hd3) (by decide)
       | skip
       all_goals
        go_wp2
        go_quiet ((go_at_call 131;first | exact zkf (zbm l.1 0 (S.buses.length-1) ⟨HB0.out.1,by have:=HB0.out.2;omega⟩ _) | exact zbZ (zbm l.1 0 (S.buses.length-1) ⟨HB0.out.1,by have:=HB0.out.2;omega⟩ _)))
        go_wp2
        go_quiet (fail)
        go_wp2
        go_roundw
        case rel=>exact ⟨2,by omega,by go_num,zag (hbel.alloc hs2 _) _⟩
        case measure=>simp [intOf];omega
   · obtain rfl:k=x.links.length:=by omega
     go_wp2
     go_ret
     exact ⟨rfl,hw⟩
end Go.Proofs.YtjkimieapfbhbaaGreatDoor
