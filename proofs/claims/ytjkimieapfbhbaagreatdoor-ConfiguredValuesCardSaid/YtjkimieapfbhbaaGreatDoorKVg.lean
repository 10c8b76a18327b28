/-
 The publisher: a new one; what is due; the message that is sent now.
-/
import Derived.Test.YtjkimieapfbhbaaGreatDoorKVd
import Derived.Deep.RegionLaw
import Derived.IntWalk
set_option maxRecDepth 100000
set_option maxHeartbeats 8000000
open Go.Value renaming int → d, slice → q, bool → s
open Go.IntKind renaming i64 → m
open Option renaming none → o
open Go.Obj renaming cells → r
open Nat renaming le_refl → x, le_trans → y, lt_of_lt_of_le → z, le_of_lt → D
namespace Go.Proofs.YtjkimieapfbhbaaGreatDoor
open Go.RowKit
theorem zdf {w:World} {cs:List Value} {t:TypeId} {k g:Nat} {v:Value} (hg:g=w.heap.size) (h:cs[k]? = some v):(w.alloc (r cs.toArray t)).cell? ⟨g,k,o⟩=some v:=by
 subst hg;exact zaI h
theorem zbK {w:World} {g:Nat} {cur:Array Value} {t:TypeId} (h:w.heap[g]? = some (.cells cur t (0,0))) (k:Nat):w.frozen? ⟨g,k,o⟩=false:=by simp [World.frozen?,h]
def sets (g:Nat) (w:World) (l:List (Nat × Value)):World:=l.foldl (fun w p=>w.setCell ⟨g,p.1,o⟩ p.2) w
theorem zaf (g:Nat):∀ (l:List (Nat × Value)) (w:World) (b:Nat),b≠g→(sets g w l).heap[b]? = w.heap[b]?
 | [],_,_,_=>rfl
 | p::l,w,b,hb=>(zaf g l (w.setCell ⟨g,p.1,o⟩ p.2) b hb).trans (heap_setCell_other w ⟨g,p.1,o⟩ b p.2 hb)
theorem zbw (g:Nat):∀ (l:List (Nat × Value)) (w:World),(sets g w l).heap.size=w.heap.size
 | [],_=>rfl
 | p::l,w=>(zbw g l (w.setCell ⟨g,p.1,o⟩ p.2)).trans (World.size_setCell ..)
theorem zak {B g:Nat} {w0:World} (hB:B≤g):∀ (l:List (Nat × Value)) (w:World),Below B w0 w→Below B w0 (sets g w l)
 | [],_,h=>h
 | p::l,w,h=>zak hB l (w.setCell ⟨g,p.1,o⟩ p.2) (h.setCell hB _)
theorem zat {w w':World} {base size n:Nat} {e:TypeId} {v:Value} {xs:List Value} (h:w.ownsRow base e size v n xs) (hk:∀ b,v.ownBlock=some b→w'.heap[b]? = w.heap[b]?):w'.ownsRow base e size v n xs:=by
 refine ⟨h.1,?_⟩
 rcases h.2 with h | ⟨g,cap,cur,rfl,h1,h2,h3⟩
 · exact .inl h
 · exact .inr ⟨g,cap,cur,rfl,h1,(hk g rfl).trans h2,h3⟩
structure PbM where
 pub:Int
 first:Int
 max:Int
 rev:Int
 started:Bool
 state:Int
 seq:Int
 since:Int
 gap:Int
 vals:List Bool
def PbM.cells (p:PbM) (A:Option Addr) (c:Nat):List Value:=[d m p.pub,d m p.first,d m p.max,d m p.rev,s p.started,d m p.state,d m p.seq,d m p.since,d m p.gap,d m 0,d m 0,d m 0,q A p.vals.length c]
def PbM.new (pub first max rev:Int):PbM:=⟨pub,first,max,rev,false,0,0,0,0,[]⟩
def PbM.due (p:PbM) (vs:List Bool):Int:=if p.started=false∨vs≠p.vals then 1 else if p.since+1=p.gap then 2 else 0
theorem zke (pub first max rev:Int) (h1:0≤pub∧pub≤999) (h2:1≤first∧first≤100) (h3:first≤max∧max≤1000) (h4:0≤rev∧rev≤4294967295) (w:World) :
 Calls Tryz.prog 20 #[d m pub,d m first,d m max,d m rev] w fun e w'=>e = .returned (.tuple #[.agg ((PbM.new pub first max rev).cells o 0).toArray,d m 0])∧Below w.heap.size w w':=by
 have e1:decide (pub<0)=false:=by rw [decide_eq_false_iff_not];omega
 have e2:decide (999<pub)=false:=by rw [decide_eq_false_iff_not];omega
 have e3:decide (first<1)=false:=by rw [decide_eq_false_iff_not];omega
 have e4:decide (100<first)=false:=by rw [decide_eq_false_iff_not];omega
 have e5:decide (max<first)=false:=by rw [decide_eq_false_iff_not];omega
 have e6:decide (1000<max)=false:=by rw [decide_eq_false_iff_not];omega
 have e7:decide (rev<0)=false:=by rw [decide_eq_false_iff_not];omega
 have e8:decide (4294967295<rev)=false:=by rw [decide_eq_false_iff_not];omega
 clear h1 h2 h3 h4;go_enter Tryz.func20,Tryz.ntmps20;go_wp2;refine bodyPost_ret (v := .tuple #[.agg ((PbM.new pub first max rev).cells o 0).toArray,d m 0]) (by simp [results,Tryz.results20,go_sem,PbM.cells,PbM.new]) rfl ⟨rfl,?_⟩
 exact zaa _ _
theorem zh7 (p:PbM) (A A2:Option Addr) (c c2 B:Nat) (vs:List Bool) (w:World) (hB:B≤w.heap.size) (h1:Rws ValR 6 w B A p.vals.length p.vals) (h2:Rws ValR 6 w B A2 vs.length vs) (hv:vs.length≤24) (hs:0≤p.since∧p.since≤100000) (hg:0≤p.gap∧p.gap≤100000) :
 Calls Tryz.prog 41 #[.agg (p.cells A c).toArray,q A2 vs.length c2] w (zaU (p.due vs) w):=by
 have hb:=zaa w (r (p.cells A c).toArray 93);have hgz:w.heap.size<(w.alloc (r (p.cells A c).toArray 93)).heap.size:=by simp
 have q4:(w.alloc (r (p.cells A c).toArray 93)).cell? ⟨w.heap.size,4,o⟩=some (s p.started):=zaI rfl;have q7:(w.alloc (r (p.cells A c).toArray 93)).cell? ⟨w.heap.size,7,o⟩=some (d m p.since):=zaI rfl;have q8:(w.alloc (r (p.cells A c).toArray 93)).cell? ⟨w.heap.size,8,o⟩=some (d m p.gap):=zaI rfl;have q12:(w.alloc (r (p.cells A c).toArray 93)).cell? ⟨w.heap.size,12,o⟩=some (q A p.vals.length c):=zaI rfl;have C:=zhg A2 A c2 c B vs p.vals (w.alloc (r (p.cells A c).toArray 93)) (y hB hb.size) (h2.mono ValR.mono (x _) (hb.mono hB)) (h1.mono ValR.mono (x _) (hb.mono hB)) (by omega);have HC:=Hd C;obtain ⟨s1,s2⟩:=hs;obtain ⟨s3,s4⟩:=hg
 have hcase:(p.started=false∧p.due vs=1)∨(p.started=true∧decide (vs=p.vals)=false∧p.due vs=1)∨(p.started=true∧decide (vs=p.vals)=true∧(p.since+1 == p.gap)=true∧p.due vs=2)∨(p.started=true∧decide (vs=p.vals)=true∧(p.since+1 == p.gap)=false∧p.due vs=0):=by
  unfold PbM.due
  cases p.started <;> by_cases h:vs=p.vals <;> by_cases h2:p.since+1=p.gap <;> simp [h,h2]
 clear h1 h2 C hB
 rcases hcase with ⟨hs,hd⟩ | ⟨hs,hq,hd⟩ | ⟨hs,hq,hn,hd⟩ | ⟨hs,hq,hn,hd⟩
 all_goals
  rw [hs] at q4;rw [hd]
  first | rw [hq] at HC | skip
  clear hs hd;go_enter Tryz.func41,Tryz.ntmps41;go_upto_region 1 with fail
  generalize w.alloc (r (p.cells A c).toArray 93)=W at *;go_wp2_with (first | (go_at_call 49;refine HC.out.mono ?_;rintro e w2 ⟨rfl,hb2⟩;have r7:=(hb2.cell (p:=⟨w.heap.size,7,o⟩) hgz).trans q7;have r8:=(hb2.cell (p:=⟨w.heap.size,8,o⟩) hgz).trans q8;have hbb:=Below.then hb hb2))
  go_ret
  first | exact ⟨rfl,hb⟩ | exact ⟨rfl,hbb⟩
def RetMsg (p:PbM) (w:World) (e:Ending) (w':World):Prop:=
 ∃ A' c',e = .returned (.agg (msgC p.pub (3*p.gap+1) p.state p.seq p.rev A' p.vals.length c').toArray)∧p.vals.length≤c'∧c'≤maxLen∧w'.ownsRow w.heap.size 73 6 (q A' p.vals.length c') p.vals.length (zaT p.vals)∧Below w.heap.size w w'
theorem zim {w w':World} {size n:Nat} {A:Option Addr} {xs:List Value} (h:Src w size A n xs) (hh:w'.heap=w.heap):Src w' size A n xs:=
 ⟨h.1,fun hn=>by
  obtain ⟨ad,e,hc⟩:=h.2 hn;exact ⟨ad,e,fun j u hu=>(World.cell?_of_block (a:=ad.add j) (by rw [hh])).trans (hc j u hu)⟩⟩
theorem zdM (p:PbM) (A:Option Addr) (c B:Nat) (w:World) (hB:B≤w.heap.size) (h1:Rws ValR 6 w B A p.vals.length p.vals) (hv:p.vals.length≤24) (hg:0≤p.gap∧p.gap≤10000) :
 Calls Tryz.prog 43 #[.agg (p.cells A c).toArray] w (RetMsg p w):=by
 have hb1:=zaa w (r (p.cells A c).toArray 93);have hb:Below w.heap.size w ((w.alloc (r (p.cells A c).toArray 93)).alloc (r #[d m 0,d m 0,d m 0,d m 0,d m 0,d m 0,d m 0,s false,d m 0,q o 0 0] 106)):=hb1.alloc (by simp) _;have q0:((w.alloc (r (p.cells A c).toArray 93)).alloc (r #[d m 0,d m 0,d m 0,d m 0,d m 0,d m 0,d m 0,s false,d m 0,q o 0 0] 106)).cell? ⟨w.heap.size,0,o⟩=some (d m p.pub):=(cell?_alloc_old _ _ _ _ (by simp)).trans (zaI rfl);have q1:((w.alloc (r (p.cells A c).toArray 93)).alloc (r #[d m 0,d m 0,d m 0,d m 0,d m 0,d m 0,d m 0,s false,d m 0,q o 0 0] 106)).cell? ⟨w.heap.size,1,o⟩=some (d m p.first):=(cell?_alloc_old _ _ _ _ (by simp)).trans (zaI rfl);have q2:((w.alloc (r (p.cells A c).toArray 93)).alloc (r #[d m 0,d m 0,d m 0,d m 0,d m 0,d m 0,d m 0,s false,d m 0,q o 0 0] 106)).cell? ⟨w.heap.size,2,o⟩=some (d m p.max):=(cell?_alloc_old _ _ _ _ (by simp)).trans (zaI rfl);have q3:((w.alloc (r (p.cells A c).toArray 93)).alloc (r #[d m 0,d m 0,d m 0,d m 0,d m 0,d m 0,d m 0,s false,d m 0,q o 0 0] 106)).cell? ⟨w.heap.size,3,o⟩=some (d m p.rev):=(cell?_alloc_old _ _ _ _ (by simp)).trans (zaI rfl);have q4:((w.alloc (r (p.cells A c).toArray 93)).alloc (r #[d m 0,d m 0,d m 0,d m 0,d m 0,d m 0,d m 0,s false,d m 0,q o 0 0] 106)).cell? ⟨w.heap.size,4,o⟩=some (s p.started):=(cell?_alloc_old _ _ _ _ (by simp)).trans (zaI rfl);have q5:((w.alloc (r (p.cells A c).toArray 93)).alloc (r #[d m 0,d m 0,d m 0,d m 0,d m 0,d m 0,d m 0,s false,d m 0,q o 0 0] 106)).cell? ⟨w.heap.size,5,o⟩=some (d m p.state):=(cell?_alloc_old _ _ _ _ (by simp)).trans (zaI rfl);have q6:((w.alloc (r (p.cells A c).toArray 93)).alloc (r #[d m 0,d m 0,d m 0,d m 0,d m 0,d m 0,d m 0,s false,d m 0,q o 0 0] 106)).cell? ⟨w.heap.size,6,o⟩=some (d m p.seq):=(cell?_alloc_old _ _ _ _ (by simp)).trans (zaI rfl)
 have q7:((w.alloc (r (p.cells A c).toArray 93)).alloc (r #[d m 0,d m 0,d m 0,d m 0,d m 0,d m 0,d m 0,s false,d m 0,q o 0 0] 106)).cell? ⟨w.heap.size,7,o⟩=some (d m p.since):=(cell?_alloc_old _ _ _ _ (by simp)).trans (zaI rfl);have q8:((w.alloc (r (p.cells A c).toArray 93)).alloc (r #[d m 0,d m 0,d m 0,d m 0,d m 0,d m 0,d m 0,s false,d m 0,q o 0 0] 106)).cell? ⟨w.heap.size,8,o⟩=some (d m p.gap):=(cell?_alloc_old _ _ _ _ (by simp)).trans (zaI rfl);have q9:((w.alloc (r (p.cells A c).toArray 93)).alloc (r #[d m 0,d m 0,d m 0,d m 0,d m 0,d m 0,d m 0,s false,d m 0,q o 0 0] 106)).cell? ⟨w.heap.size,9,o⟩=some (d m 0):=(cell?_alloc_old _ _ _ _ (by simp)).trans (zaI rfl);have q10:((w.alloc (r (p.cells A c).toArray 93)).alloc (r #[d m 0,d m 0,d m 0,d m 0,d m 0,d m 0,d m 0,s false,d m 0,q o 0 0] 106)).cell? ⟨w.heap.size,10,o⟩=some (d m 0):=(cell?_alloc_old _ _ _ _ (by simp)).trans (zaI rfl);have q11:((w.alloc (r (p.cells A c).toArray 93)).alloc (r #[d m 0,d m 0,d m 0,d m 0,d m 0,d m 0,d m 0,s false,d m 0,q o 0 0] 106)).cell? ⟨w.heap.size,11,o⟩=some (d m 0):=(cell?_alloc_old _ _ _ _ (by simp)).trans (zaI rfl);have q12:((w.alloc (r (p.cells A c).toArray 93)).alloc (r #[d m 0,d m 0,d m 0,d m 0,d m 0,d m 0,d m 0,s false,d m 0,q o 0 0] 106)).cell? ⟨w.heap.size,12,o⟩=some (q A p.vals.length c):=(cell?_alloc_old _ _ _ _ (by simp)).trans (zaI rfl);have r0:((w.alloc (r (p.cells A c).toArray 93)).alloc (r #[d m 0,d m 0,d m 0,d m 0,d m 0,d m 0,d m 0,s false,d m 0,q o 0 0] 106)).cell? ⟨w.heap.size+1,0,o⟩=some (d m 0):=zdf (cs:=[d m 0,d m 0,d m 0,d m 0,d m 0,d m 0,d m 0,s false,d m 0,q o 0 0]) (by simp) rfl
 have r1:((w.alloc (r (p.cells A c).toArray 93)).alloc (r #[d m 0,d m 0,d m 0,d m 0,d m 0,d m 0,d m 0,s false,d m 0,q o 0 0] 106)).cell? ⟨w.heap.size+1,1,o⟩=some (d m 0):=zdf (cs:=[d m 0,d m 0,d m 0,d m 0,d m 0,d m 0,d m 0,s false,d m 0,q o 0 0]) (by simp) rfl;have r2:((w.alloc (r (p.cells A c).toArray 93)).alloc (r #[d m 0,d m 0,d m 0,d m 0,d m 0,d m 0,d m 0,s false,d m 0,q o 0 0] 106)).cell? ⟨w.heap.size+1,2,o⟩=some (d m 0):=zdf (cs:=[d m 0,d m 0,d m 0,d m 0,d m 0,d m 0,d m 0,s false,d m 0,q o 0 0]) (by simp) rfl;have r3:((w.alloc (r (p.cells A c).toArray 93)).alloc (r #[d m 0,d m 0,d m 0,d m 0,d m 0,d m 0,d m 0,s false,d m 0,q o 0 0] 106)).cell? ⟨w.heap.size+1,3,o⟩=some (d m 0):=zdf (cs:=[d m 0,d m 0,d m 0,d m 0,d m 0,d m 0,d m 0,s false,d m 0,q o 0 0]) (by simp) rfl;have r4:((w.alloc (r (p.cells A c).toArray 93)).alloc (r #[d m 0,d m 0,d m 0,d m 0,d m 0,d m 0,d m 0,s false,d m 0,q o 0 0] 106)).cell? ⟨w.heap.size+1,4,o⟩=some (d m 0):=zdf (cs:=[d m 0,d m 0,d m 0,d m 0,d m 0,d m 0,d m 0,s false,d m 0,q o 0 0]) (by simp) rfl;have r5:((w.alloc (r (p.cells A c).toArray 93)).alloc (r #[d m 0,d m 0,d m 0,d m 0,d m 0,d m 0,d m 0,s false,d m 0,q o 0 0] 106)).cell? ⟨w.heap.size+1,5,o⟩=some (d m 0):=zdf (cs:=[d m 0,d m 0,d m 0,d m 0,d m 0,d m 0,d m 0,s false,d m 0,q o 0 0]) (by simp) rfl;have r6:((w.alloc (r (p.cells A c).toArray 93)).alloc (r #[d m 0,d m 0,d m 0,d m 0,d m 0,d m 0,d m 0,s false,d m 0,q o 0 0] 106)).cell? ⟨w.heap.size+1,6,o⟩=some (d m 0):=zdf (cs:=[d m 0,d m 0,d m 0,d m 0,d m 0,d m 0,d m 0,s false,d m 0,q o 0 0]) (by simp) rfl
 have r7:((w.alloc (r (p.cells A c).toArray 93)).alloc (r #[d m 0,d m 0,d m 0,d m 0,d m 0,d m 0,d m 0,s false,d m 0,q o 0 0] 106)).cell? ⟨w.heap.size+1,7,o⟩=some (s false):=zdf (cs:=[d m 0,d m 0,d m 0,d m 0,d m 0,d m 0,d m 0,s false,d m 0,q o 0 0]) (by simp) rfl;have r8:((w.alloc (r (p.cells A c).toArray 93)).alloc (r #[d m 0,d m 0,d m 0,d m 0,d m 0,d m 0,d m 0,s false,d m 0,q o 0 0] 106)).cell? ⟨w.heap.size+1,8,o⟩=some (d m 0):=zdf (cs:=[d m 0,d m 0,d m 0,d m 0,d m 0,d m 0,d m 0,s false,d m 0,q o 0 0]) (by simp) rfl;have r9:((w.alloc (r (p.cells A c).toArray 93)).alloc (r #[d m 0,d m 0,d m 0,d m 0,d m 0,d m 0,d m 0,s false,d m 0,q o 0 0] 106)).cell? ⟨w.heap.size+1,9,o⟩=some (q o 0 0):=zdf (cs:=[d m 0,d m 0,d m 0,d m 0,d m 0,d m 0,d m 0,s false,d m 0,q o 0 0]) (by simp) rfl
 have hh:((w.alloc (r (p.cells A c).toArray 93)).alloc (r #[d m 0,d m 0,d m 0,d m 0,d m 0,d m 0,d m 0,s false,d m 0,q o 0 0] 106)).heap[w.heap.size+1]? = some (.cells #[d m 0,d m 0,d m 0,d m 0,d m 0,d m 0,d m 0,s false,d m 0,q o 0 0] 106 (0,0)):=by
  rw [show w.heap.size+1=(w.alloc (r (p.cells A c).toArray 93)).heap.size by simp];exact heap_alloc_new _ _
 have hz0:w.heap.size<((w.alloc (r (p.cells A c).toArray 93)).alloc (r #[d m 0,d m 0,d m 0,d m 0,d m 0,d m 0,d m 0,s false,d m 0,q o 0 0] 106)).heap.size:=by simp;omega
 have hz1:w.heap.size+1<((w.alloc (r (p.cells A c).toArray 93)).alloc (r #[d m 0,d m 0,d m 0,d m 0,d m 0,d m 0,d m 0,s false,d m 0,q o 0 0] 106)).heap.size:=by simp
 have HS:=Hd (zcU (h1.mono ValR.mono (x _) (hb.mono hB)));have HH:=Hd hh;obtain ⟨g1,g2⟩:=hg;have m1:IntKind.i64.wrap (3*p.gap)=3*p.gap:=IntWalk.i64_in _ ⟨by omega,by omega⟩;have m2:IntKind.i64.wrap (3*p.gap+1)=3*p.gap+1:=IntWalk.i64_in _ ⟨by omega,by omega⟩;clear h1 hh hb1;go_enter Tryz.func43,Tryz.ntmps43;go_upto_region 1 with fail
 generalize (w.alloc (r (p.cells A c).toArray 93)).alloc (r #[d m 0,d m 0,d m 0,d m 0,d m 0,d m 0,d m 0,s false,d m 0,q o 0 0] 106)=W at *;have HD:=Hd (show ∀ W':World,W'.heap=W.heap→Calls Tryz.prog 40 #[q A p.vals.length c] W' (RetRow 73 6 p.vals.length (zaT p.vals) W') from fun W' hW=>zdm A c p.vals.length (zaT p.vals) W' (zim HS.out hW) (zbP _) (by omega))
 go_region_held3 (fun w'=>w'.cell? ⟨w.heap.size,0,o⟩=some (d m p.pub)∧w'.cell? ⟨w.heap.size,3,o⟩=some (d m p.rev)∧w'.cell? ⟨w.heap.size,5,o⟩=some (d m p.state)∧w'.cell? ⟨w.heap.size,6,o⟩=some (d m p.seq)∧w'.cell? ⟨w.heap.size,8,o⟩=some (d m p.gap)∧w'.cell? ⟨w.heap.size,9,o⟩=some (d m 0)∧w'.cell? ⟨w.heap.size,10,o⟩=some (d m 0)∧w'.cell? ⟨w.heap.size,11,o⟩=some (d m 0)∧w'.cell? ⟨w.heap.size,12,o⟩=some (q A p.vals.length c)) (go_keep)
  (first
   | ((go_at_call 42;(with_reducible refine (ze6 p.gap ⟨by omega,by omega⟩ _).mono ?_);rintro e w2 ⟨rfl,rfl⟩))
   | ((go_at_call 40;refine (HD.out _ (by rfl)).mono ?_;rintro e w3 ⟨A3,c3,rfl,hc3,hm3,ho3,hb3⟩;obtain ⟨z0,z3,z5,z6,z8,z9⟩:=kb6 hb3 hz0 ⟨q0,q3,q5,q6,q8,q9⟩;obtain ⟨z10,z11,z12⟩:=kb3 hb3 hz0 ⟨q10,q11,q12⟩;obtain ⟨y0,y1,y2,y3,y4,y5⟩:=kb6 hb3 hz1 ⟨r0,r1,r2,r3,r4,r5⟩;obtain ⟨y6,y7,y8,y9⟩:=kb4 hb3 hz1 ⟨r6,r7,r8,r9⟩;have f0:=zbK ((hb3.block (w.heap.size+1) hz1).trans HH.out) 0;have f1:=zbK ((hb3.block (w.heap.size+1) hz1).trans HH.out) 1;have f2:=zbK ((hb3.block (w.heap.size+1) hz1).trans HH.out) 2;have f3:=zbK ((hb3.block (w.heap.size+1) hz1).trans HH.out) 3;have f4:=zbK ((hb3.block (w.heap.size+1) hz1).trans HH.out) 4;have f5:=zbK ((hb3.block (w.heap.size+1) hz1).trans HH.out) 5;have f6:=zbK ((hb3.block (w.heap.size+1) hz1).trans HH.out) 6;have f7:=zbK ((hb3.block (w.heap.size+1) hz1).trans HH.out) 7;have f8:=zbK ((hb3.block (w.heap.size+1) hz1).trans HH.out) 8;have f9:=zbK ((hb3.block (w.heap.size+1) hz1).trans HH.out) 9;have hl1:w.heap.size+1<w3.heap.size:=z hz1 hb3.size;have HO:=Hd ho3;have B3:=Hd hb3;clear ho3 hb3)))
 all_goals
  go_wp2;refine bodyPost_ret (v := .agg (msgC p.pub (3*p.gap+1) p.state p.seq p.rev A3 p.vals.length c3).toArray) (by simp [results,Tryz.results43,go_sem,msgC,y0,y1,y2,y3,y4,y5,y6,y7,y8,y9]) rfl ⟨A3,c3,rfl,hc3,hm3,?_,?_⟩
  · refine zat (w':=sets (w.heap.size+1) w3 [(0,d m p.pub),(1,d m (3*p.gap+1)),(2,d m 0),(3,d m 0),(4,d m 0),(5,d m p.state),(6,d m p.seq),(7,s false),(8,d m p.rev),(9,q A3 p.vals.length c3)]) (zao HO.out (y (Nat.le_succ _) (D hz1))) fun b hb=>zaf _ _ _ b ?_
    have:=(HO.out.lt b hb).1
    have h2:W.drew.heap.size=W.heap.size:=rfl
    omega
  · exact zak (Nat.le_succ _) [(0,d m p.pub),(1,d m (3*p.gap+1)),(2,d m 0),(3,d m 0),(4,d m 0),(5,d m p.state),(6,d m p.seq),(7,s false),(8,d m p.rev),(9,q A3 p.vals.length c3)] w3 (hb.drew.trans (B3.out.mono (y (Nat.le_succ _) (D hz1))))
set_option maxHeartbeats 16000000
def Row (w:World) (g:Nat) (t:TypeId) (cs:List Value):Prop:=w.heap[g]? = some (.cells cs.toArray t (0,0))
theorem Row.cell {w:World} {g k:Nat} {t:TypeId} {cs:List Value} {v:Value} (h:Row w g t cs) (hk:cs[k]? = some v):w.cell? ⟨g,k,o⟩=some v:=by
 have h':w.heap[g]? = some (.cells cs.toArray t (0,0)):=h;have h2:=cell_of_row w g k _ t (0,0) h';rw [h2];simpa using hk
theorem Row.free {w:World} {g:Nat} {t:TypeId} {cs:List Value} (h:Row w g t cs) (k:Nat):w.frozen? ⟨g,k,o⟩=false:=zbK h k
theorem kr2 {w:World} {g:Nat} {t:TypeId} {a0 a1:Value} {l:List Value} (h:Row w g t (a0::a1::l)):w.cell? ⟨g,0,o⟩=some a0∧w.cell? ⟨g,1,o⟩=some a1:=⟨Row.cell h rfl,Row.cell h rfl⟩
theorem kr3 {w:World} {g:Nat} {t:TypeId} {a0 a1 a2:Value} {l:List Value} (h:Row w g t (a0::a1::a2::l)):w.cell? ⟨g,0,o⟩=some a0∧w.cell? ⟨g,1,o⟩=some a1∧w.cell? ⟨g,2,o⟩=some a2:=⟨Row.cell h rfl,Row.cell h rfl,Row.cell h rfl⟩
theorem kr4 {w:World} {g:Nat} {t:TypeId} {a0 a1 a2 a3:Value} {l:List Value} (h:Row w g t (a0::a1::a2::a3::l)):w.cell? ⟨g,0,o⟩=some a0∧w.cell? ⟨g,1,o⟩=some a1∧w.cell? ⟨g,2,o⟩=some a2∧w.cell? ⟨g,3,o⟩=some a3:=⟨Row.cell h rfl,Row.cell h rfl,Row.cell h rfl,Row.cell h rfl⟩
theorem kr5 {w:World} {g:Nat} {t:TypeId} {a0 a1 a2 a3 a4:Value} {l:List Value} (h:Row w g t (a0::a1::a2::a3::a4::l)):w.cell? ⟨g,0,o⟩=some a0∧w.cell? ⟨g,1,o⟩=some a1∧w.cell? ⟨g,2,o⟩=some a2∧w.cell? ⟨g,3,o⟩=some a3∧w.cell? ⟨g,4,o⟩=some a4:=⟨Row.cell h rfl,Row.cell h rfl,Row.cell h rfl,Row.cell h rfl,Row.cell h rfl⟩
theorem kr6 {w:World} {g:Nat} {t:TypeId} {a0 a1 a2 a3 a4 a5:Value} {l:List Value} (h:Row w g t (a0::a1::a2::a3::a4::a5::l)):w.cell? ⟨g,0,o⟩=some a0∧w.cell? ⟨g,1,o⟩=some a1∧w.cell? ⟨g,2,o⟩=some a2∧w.cell? ⟨g,3,o⟩=some a3∧w.cell? ⟨g,4,o⟩=some a4∧w.cell? ⟨g,5,o⟩=some a5:=⟨Row.cell h rfl,Row.cell h rfl,Row.cell h rfl,Row.cell h rfl,Row.cell h rfl,Row.cell h rfl⟩
theorem kr9 {w:World} {g:Nat} {t:TypeId} {a0 a1 a2 a3 a4 a5 a6 a7 a8:Value} {l:List Value} (h:Row w g t (a0::a1::a2::a3::a4::a5::a6::a7::a8::l)):w.cell? ⟨g,0,o⟩=some a0∧w.cell? ⟨g,1,o⟩=some a1∧w.cell? ⟨g,2,o⟩=some a2∧w.cell? ⟨g,3,o⟩=some a3∧w.cell? ⟨g,4,o⟩=some a4∧w.cell? ⟨g,5,o⟩=some a5∧w.cell? ⟨g,6,o⟩=some a6∧w.cell? ⟨g,7,o⟩=some a7∧w.cell? ⟨g,8,o⟩=some a8:=⟨Row.cell h rfl,Row.cell h rfl,Row.cell h rfl,Row.cell h rfl,Row.cell h rfl,Row.cell h rfl,Row.cell h rfl,Row.cell h rfl,Row.cell h rfl⟩
theorem kr10 {w:World} {g:Nat} {t:TypeId} {a0 a1 a2 a3 a4 a5 a6 a7 a8 a9:Value} {l:List Value} (h:Row w g t (a0::a1::a2::a3::a4::a5::a6::a7::a8::a9::l)):w.cell? ⟨g,0,o⟩=some a0∧w.cell? ⟨g,1,o⟩=some a1∧w.cell? ⟨g,2,o⟩=some a2∧w.cell? ⟨g,3,o⟩=some a3∧w.cell? ⟨g,4,o⟩=some a4∧w.cell? ⟨g,5,o⟩=some a5∧w.cell? ⟨g,6,o⟩=some a6∧w.cell? ⟨g,7,o⟩=some a7∧w.cell? ⟨g,8,o⟩=some a8∧w.cell? ⟨g,9,o⟩=some a9:=⟨Row.cell h rfl,Row.cell h rfl,Row.cell h rfl,Row.cell h rfl,Row.cell h rfl,Row.cell h rfl,Row.cell h rfl,Row.cell h rfl,Row.cell h rfl,Row.cell h rfl⟩
theorem kr12 {w:World} {g:Nat} {t:TypeId} {a0 a1 a2 a3 a4 a5 a6 a7 a8 a9 a10 a11:Value} {l:List Value} (h:Row w g t (a0::a1::a2::a3::a4::a5::a6::a7::a8::a9::a10::a11::l)):w.cell? ⟨g,0,o⟩=some a0∧w.cell? ⟨g,1,o⟩=some a1∧w.cell? ⟨g,2,o⟩=some a2∧w.cell? ⟨g,3,o⟩=some a3∧w.cell? ⟨g,4,o⟩=some a4∧w.cell? ⟨g,5,o⟩=some a5∧w.cell? ⟨g,6,o⟩=some a6∧w.cell? ⟨g,7,o⟩=some a7∧w.cell? ⟨g,8,o⟩=some a8∧w.cell? ⟨g,9,o⟩=some a9∧w.cell? ⟨g,10,o⟩=some a10∧w.cell? ⟨g,11,o⟩=some a11:=⟨Row.cell h rfl,Row.cell h rfl,Row.cell h rfl,Row.cell h rfl,Row.cell h rfl,Row.cell h rfl,Row.cell h rfl,Row.cell h rfl,Row.cell h rfl,Row.cell h rfl,Row.cell h rfl,Row.cell h rfl⟩
theorem kr13 {w:World} {g:Nat} {t:TypeId} {a0 a1 a2 a3 a4 a5 a6 a7 a8 a9 a10 a11 a12:Value} {l:List Value} (h:Row w g t (a0::a1::a2::a3::a4::a5::a6::a7::a8::a9::a10::a11::a12::l)):w.cell? ⟨g,0,o⟩=some a0∧w.cell? ⟨g,1,o⟩=some a1∧w.cell? ⟨g,2,o⟩=some a2∧w.cell? ⟨g,3,o⟩=some a3∧w.cell? ⟨g,4,o⟩=some a4∧w.cell? ⟨g,5,o⟩=some a5∧w.cell? ⟨g,6,o⟩=some a6∧w.cell? ⟨g,7,o⟩=some a7∧w.cell? ⟨g,8,o⟩=some a8∧w.cell? ⟨g,9,o⟩=some a9∧w.cell? ⟨g,10,o⟩=some a10∧w.cell? ⟨g,11,o⟩=some a11∧w.cell? ⟨g,12,o⟩=some a12:=⟨Row.cell h rfl,Row.cell h rfl,Row.cell h rfl,Row.cell h rfl,Row.cell h rfl,Row.cell h rfl,Row.cell h rfl,Row.cell h rfl,Row.cell h rfl,Row.cell h rfl,Row.cell h rfl,Row.cell h rfl,Row.cell h rfl⟩
theorem kq4 {w:World} {g:Nat} {t:TypeId} {l:List Value} (h:Row w g t l):w.frozen? ⟨g,0,o⟩=false∧w.frozen? ⟨g,1,o⟩=false∧w.frozen? ⟨g,2,o⟩=false∧w.frozen? ⟨g,3,o⟩=false:=⟨Row.free h 0,Row.free h 1,Row.free h 2,Row.free h 3⟩
theorem kq6 {w:World} {g:Nat} {t:TypeId} {l:List Value} (h:Row w g t l):w.frozen? ⟨g,0,o⟩=false∧w.frozen? ⟨g,1,o⟩=false∧w.frozen? ⟨g,2,o⟩=false∧w.frozen? ⟨g,3,o⟩=false∧w.frozen? ⟨g,4,o⟩=false∧w.frozen? ⟨g,5,o⟩=false:=⟨Row.free h 0,Row.free h 1,Row.free h 2,Row.free h 3,Row.free h 4,Row.free h 5⟩
theorem kq9 {w:World} {g:Nat} {t:TypeId} {l:List Value} (h:Row w g t l):w.frozen? ⟨g,0,o⟩=false∧w.frozen? ⟨g,1,o⟩=false∧w.frozen? ⟨g,2,o⟩=false∧w.frozen? ⟨g,3,o⟩=false∧w.frozen? ⟨g,4,o⟩=false∧w.frozen? ⟨g,5,o⟩=false∧w.frozen? ⟨g,6,o⟩=false∧w.frozen? ⟨g,7,o⟩=false∧w.frozen? ⟨g,8,o⟩=false:=⟨Row.free h 0,Row.free h 1,Row.free h 2,Row.free h 3,Row.free h 4,Row.free h 5,Row.free h 6,Row.free h 7,Row.free h 8⟩
theorem kq13 {w:World} {g:Nat} {t:TypeId} {l:List Value} (h:Row w g t l):w.frozen? ⟨g,0,o⟩=false∧w.frozen? ⟨g,1,o⟩=false∧w.frozen? ⟨g,2,o⟩=false∧w.frozen? ⟨g,3,o⟩=false∧w.frozen? ⟨g,4,o⟩=false∧w.frozen? ⟨g,5,o⟩=false∧w.frozen? ⟨g,6,o⟩=false∧w.frozen? ⟨g,7,o⟩=false∧w.frozen? ⟨g,8,o⟩=false∧w.frozen? ⟨g,9,o⟩=false∧w.frozen? ⟨g,10,o⟩=false∧w.frozen? ⟨g,11,o⟩=false∧w.frozen? ⟨g,12,o⟩=false:=⟨Row.free h 0,Row.free h 1,Row.free h 2,Row.free h 3,Row.free h 4,Row.free h 5,Row.free h 6,Row.free h 7,Row.free h 8,Row.free h 9,Row.free h 10,Row.free h 11,Row.free h 12⟩
theorem Row.lt {w:World} {g:Nat} {t:TypeId} {cs:List Value} (h:Row w g t cs):g<w.heap.size:=(Array.getElem?_eq_some_iff.1 h).1
theorem Row.below {w w':World} {g B:Nat} {t:TypeId} {cs:List Value} (h:Row w g t cs) (hb:Below B w w') (hg:g<B):Row w' g t cs:=(hb.block g hg).trans h
theorem Row.set {w:World} {g i:Nat} {t:TypeId} {cs:List Value} {v:Value} (h:Row w g t cs):Row (w.setCell ⟨g,i,o⟩ v) g t (cs.set i v):=by
 have h':w.heap[g]? = some (.cells cs.toArray t (0,0)):=h
 show (w.setCell ⟨g,i,o⟩ v).heap[g]? = _
 rw [heap_setCell_same w g i _ _ _ h'];simp
def zfj (l:List (Nat × Value)) (cs:List Value):List Value:=l.foldl (fun cs p=>cs.set p.1 p.2) cs
theorem Row.sets {g:Nat} {t:TypeId}:∀ (l:List (Nat × Value)) {w:World} {cs:List Value},Row w g t cs→Row (sets g w l) g t (zfj l cs)
 | [],_,_,h=>h
 | _::l,_,_,h=>Row.sets l h.set
theorem Row.apart {w:World} {g b:Nat} {t:TypeId} {cs:List Value} (l:List (Nat × Value)) (h:Row w b t cs) (hb:b≠g):Row (Go.Proofs.YtjkimieapfbhbaaGreatDoor.sets g w l) b t cs:=(zaf g l w b hb).trans h
theorem Row.new {w:World} {t:TypeId} (g:Nat) (cs:List Value) (hg:g=w.heap.size):Row (w.alloc (r cs.toArray t)) g t cs:=by
 subst hg;exact heap_alloc_new _ _
def PbM.change (p:PbM) (vs:List Bool):PbM:={ p with state:=if p.started then p.state+1 else 1,seq:=0,gap:=p.first,vals:=vs,started:=true,since:=0 }
def PbM.repeats (p:PbM):PbM:={ p with seq:=p.seq+1,gap:=min (2*p.gap) p.max,since:=0 }
def PbM.waits (p:PbM):PbM:={ p with since:=p.since+1 }
structure PbM.Fit (p:PbM):Prop where
 pub:0≤p.pub∧p.pub≤999
 first:1≤p.first∧p.first≤100
 max:p.first≤p.max∧p.max≤1000
 rev:0≤p.rev∧p.rev≤4294967295
 state:0≤p.state∧p.state≤900
 seq:0≤p.seq∧p.seq≤900
 since:0≤p.since∧p.since≤5000
 gap:0≤p.gap∧p.gap≤1000
 vals:p.vals.length≤24
def zh2 (p':PbM) (w:World) (e:Ending) (w':World):Prop:=
 ∃ A' c',e = .returned (.tuple #[.agg (p'.cells A' c').toArray,q o 0 0])∧p'.vals.length≤c'∧c'≤maxLen∧w'.ownsRow w.heap.size 73 6 (q A' p'.vals.length c') p'.vals.length (zaT p'.vals)∧Below w.heap.size w w'
theorem zg7 (p:PbM) (A A2:Option Addr) (c c2 B:Nat) (vs:List Bool) (w:World) (hB:B≤w.heap.size) (hF:p.Fit) (h1:Rws ValR 6 w B A p.vals.length p.vals) (h2:Rws ValR 6 w B A2 vs.length vs) (hv:vs.length≤24) (hd:p.due vs=0) :
 Calls Tryz.prog 23 #[.agg (p.cells A c).toArray,q A2 vs.length c2,.agg #[d m 0,d m 0,d m 0]] w (zh2 p.waits w):=by
 obtain ⟨-,-,-,-,-,-,⟨s1,s2⟩,⟨s3,s4⟩,s5⟩:=hF;have hb:Below w.heap.size w ((((w.alloc (r (p.cells A c).toArray 93)).alloc (r #[d m 0,d m 0,d m 0] 71)).alloc (r #[d m 0,d m 0,d m 0,d m 0,s false,d m 0,d m 0,d m 0,d m 0,d m 0,d m 0,d m 0,q o 0 0] 93)).alloc (r #[d m p.pub,d m p.first,d m p.max,d m p.rev,s p.started,d m p.state,d m p.seq,d m p.since,d m p.gap,d m 0,d m 0,d m 0,q A p.vals.length c] 93)):=(((zaa w _).alloc (by simp) _).alloc (by simp <;> omega) _).alloc (by simp <;> omega) _;have R0:Row ((((w.alloc (r (p.cells A c).toArray 93)).alloc (r #[d m 0,d m 0,d m 0] 71)).alloc (r #[d m 0,d m 0,d m 0,d m 0,s false,d m 0,d m 0,d m 0,d m 0,d m 0,d m 0,d m 0,q o 0 0] 93)).alloc (r #[d m p.pub,d m p.first,d m p.max,d m p.rev,s p.started,d m p.state,d m p.seq,d m p.since,d m p.gap,d m 0,d m 0,d m 0,q A p.vals.length c] 93)) (w.heap.size) 93 (p.cells A c):=(Row.new _ _ rfl).below (((Below.refl _ _).alloc (x _) _ |>.alloc (by simp <;> omega) _).alloc (by simp <;> omega) _) (by simp);have R2:Row ((((w.alloc (r (p.cells A c).toArray 93)).alloc (r #[d m 0,d m 0,d m 0] 71)).alloc (r #[d m 0,d m 0,d m 0,d m 0,s false,d m 0,d m 0,d m 0,d m 0,d m 0,d m 0,d m 0,q o 0 0] 93)).alloc (r #[d m p.pub,d m p.first,d m p.max,d m p.rev,s p.started,d m p.state,d m p.seq,d m p.since,d m p.gap,d m 0,d m 0,d m 0,q A p.vals.length c] 93)) (w.heap.size+1+1) 93 [d m 0,d m 0,d m 0,d m 0,s false,d m 0,d m 0,d m 0,d m 0,d m 0,d m 0,d m 0,q o 0 0]:=(Row.new _ [d m 0,d m 0,d m 0,d m 0,s false,d m 0,d m 0,d m 0,d m 0,d m 0,d m 0,d m 0,q o 0 0] (by simp)).below (zaa _ _) (by simp)
 have R1:Row ((((w.alloc (r (p.cells A c).toArray 93)).alloc (r #[d m 0,d m 0,d m 0] 71)).alloc (r #[d m 0,d m 0,d m 0,d m 0,s false,d m 0,d m 0,d m 0,d m 0,d m 0,d m 0,d m 0,q o 0 0] 93)).alloc (r #[d m p.pub,d m p.first,d m p.max,d m p.rev,s p.started,d m p.state,d m p.seq,d m p.since,d m p.gap,d m 0,d m 0,d m 0,q A p.vals.length c] 93)) (w.heap.size+1) 71 [d m 0,d m 0,d m 0]:=(Row.new _ [d m 0,d m 0,d m 0] (by simp)).below ((zaa _ _).trans ((zaa _ _).mono (by simp))) (by simp);have RN:Row ((((w.alloc (r (p.cells A c).toArray 93)).alloc (r #[d m 0,d m 0,d m 0] 71)).alloc (r #[d m 0,d m 0,d m 0,d m 0,s false,d m 0,d m 0,d m 0,d m 0,d m 0,d m 0,d m 0,q o 0 0] 93)).alloc (r #[d m p.pub,d m p.first,d m p.max,d m p.rev,s p.started,d m p.state,d m p.seq,d m p.since,d m p.gap,d m 0,d m 0,d m 0,q A p.vals.length c] 93)) (w.heap.size+1+1+1) 93 (p.cells A c):=Row.new _ _ (by simp);have R03:Row (((w.alloc (r (p.cells A c).toArray 93)).alloc (r #[d m 0,d m 0,d m 0] 71)).alloc (r #[d m 0,d m 0,d m 0,d m 0,s false,d m 0,d m 0,d m 0,d m 0,d m 0,d m 0,d m 0,q o 0 0] 93)) (w.heap.size) 93 (p.cells A c):=(Row.new _ _ rfl).below ((Below.refl _ _).alloc (x _) _ |>.alloc (by simp <;> omega) _) (by simp);obtain ⟨a0,a1,a2,a3,a4,a5,a6,a7,a8,a9,a10,a11,a12⟩:=kr13 R03;obtain ⟨q0,q1,q2,q3,q4,q5,q6,q7,q8,q9,q10,q11,q12⟩:=kr13 R0;have n12:=Row.cell (k:=12) (v := q A p.vals.length c) RN rfl;have nf12:=Row.free RN 12;have z0:=R0.lt;have zn:=RN.lt;have H0:=Hd R0;have HZ:=Hd zn;have H1:=Hd R1;have H2:=Hd R2;have HN:=Hd RN;have HV1:=Hd (h1.mono ValR.mono (x _) (hb.mono hB));have HV2:=Hd (h2.mono ValR.mono (x _) (hb.mono hB));clear h1 h2 R0 R1 R2 RN;go_enter Tryz.func23,Tryz.ntmps23;go_upto_region 2 with fail
 clear R03 a0 a1 a2 a3 a4 a5 a6 a7 a8 a9 a10 a11 a12;generalize (((w.alloc (r (p.cells A c).toArray 93)).alloc (r #[d m 0,d m 0,d m 0] 71)).alloc (r #[d m 0,d m 0,d m 0,d m 0,s false,d m 0,d m 0,d m 0,d m 0,d m 0,d m 0,d m 0,q o 0 0] 93)).alloc (r #[d m p.pub,d m p.first,d m p.max,d m p.rev,s p.started,d m p.state,d m p.seq,d m p.since,d m p.gap,d m 0,d m 0,d m 0,q A p.vals.length c] 93)=W0 at *;go_wp2_with fail
 refine (zdm A c p.vals.length (zaT p.vals) W0 (zcU HV1.out) (zbP _) (by omega)).mono ?_
 rintro e w1 ⟨A1,c1,rfl,hc1,hm1,ho1,j1⟩
 have x12:=(j1.cell (p:=⟨w.heap.size+1+1+1,12,o⟩) zn).trans n12;have xf12:=(j1.frozen (p:=⟨w.heap.size+1+1+1,12,o⟩) zn).trans nf12;obtain ⟨y0,y1,y2,y3,y4,y5⟩:=kb6 j1 z0 ⟨q0,q1,q2,q3,q4,q5⟩;obtain ⟨y6,y7,y8,y9,y10,y11⟩:=kb6 j1 z0 ⟨q6,q7,q8,q9,q10,q11⟩;have y12:=(j1.cell (p:=⟨w.heap.size,12,o⟩) z0).trans q12;have zn1:=z zn j1.size;have z01:=z z0 j1.size;have R1N:Row ((w1.setCell ⟨w.heap.size+1+1+1,12,o⟩ (q A1 p.vals.length c1))) (w.heap.size+1+1+1) 93 [d m p.pub,d m p.first,d m p.max,d m p.rev,s p.started,d m p.state,d m p.seq,d m p.since,d m p.gap,d m 0,d m 0,d m 0,q A1 p.vals.length c1]:=Row.sets [(12,q A1 p.vals.length c1)] (HN.out.below j1 zn);have R10:Row ((w1.setCell ⟨w.heap.size+1+1+1,12,o⟩ (q A1 p.vals.length c1))) (w.heap.size) 93 (p.cells A c):=Row.apart [(12,q A1 p.vals.length c1)] (H0.out.below j1 z0) (by omega);have R11:Row ((w1.setCell ⟨w.heap.size+1+1+1,12,o⟩ (q A1 p.vals.length c1))) (w.heap.size+1) 71 [d m 0,d m 0,d m 0]:=Row.apart [(12,q A1 p.vals.length c1)] (H1.out.below j1 H1.out.lt) (by omega);have R12:Row ((w1.setCell ⟨w.heap.size+1+1+1,12,o⟩ (q A1 p.vals.length c1))) (w.heap.size+1+1) 93 [d m 0,d m 0,d m 0,d m 0,s false,d m 0,d m 0,d m 0,d m 0,d m 0,d m 0,d m 0,q o 0 0]:=Row.apart [(12,q A1 p.vals.length c1)] (H2.out.below j1 H2.out.lt) (by omega);have B1:Below w.heap.size w ((w1.setCell ⟨w.heap.size+1+1+1,12,o⟩ (q A1 p.vals.length c1))):=zak (by omega) [(12,q A1 p.vals.length c1)] w1 (Below.then hb j1);have o1:((w1.setCell ⟨w.heap.size+1+1+1,12,o⟩ (q A1 p.vals.length c1))).ownsRow w.heap.size 73 6 (q A1 p.vals.length c1) p.vals.length (zaT p.vals):=zat (zao ho1 hb.size) fun b hb'=>zaf _ [(12,q A1 p.vals.length c1)] _ b (by have:=(ho1.lt b hb').1;omega)
 have hs1:W0.heap.size≤((w1.setCell ⟨w.heap.size+1+1+1,12,o⟩ (q A1 p.vals.length c1))).heap.size:=by rw [World.size_setCell];exact j1.size
 have HR1N:=Hd R1N;have HR10:=Hd R10;have HR11:=Hd R11;have HR12:=Hd R12;have HB1:=Hd B1;have HO1:=Hd o1;have HOFF:=Hd (show ∀ b,(q A1 p.vals.length c1).ownBlock=some b→W0.heap.size≤b from fun b hb'=>(ho1.lt b hb').1);have HW1:=Hd (show Rws ValR 6 ((w1.setCell ⟨w.heap.size+1+1+1,12,o⟩ (q A1 p.vals.length c1))) B A p.vals.length p.vals from HV1.out.mono ValR.mono (x _) (zak (by have:=hb.size;omega) [(12,q A1 p.vals.length c1)] w1 (j1.mono (y hB hb.size))));have HW2:=Hd (show Rws ValR 6 ((w1.setCell ⟨w.heap.size+1+1+1,12,o⟩ (q A1 p.vals.length c1))) B A2 vs.length vs from HV2.out.mono ValR.mono (x _) (zak (by have:=hb.size;omega) [(12,q A1 p.vals.length c1)] w1 (j1.mono (y hB hb.size))));clear R1N R10 R11 R12 B1 o1 ho1 j1;go_wp2_with fail
 generalize (w1.setCell ⟨w.heap.size+1+1+1,12,o⟩ (q A1 p.vals.length c1))=X at *;clear q0 q1 q2 q3 q4 q5 q6 q7 q8 q9 q10 q11 q12;clear n12 nf12;clear y0 y1 y2 y3 y4 y5 y6 y7 y8 y9 y10 y11 y12;clear x12 xf12;refine (zh7 p A A2 c c2 B vs X (by have:=HB1.out.size;omega) HW1.out HW2.out hv ⟨s1,by omega⟩ ⟨s3,by omega⟩).mono ?_
 rintro e w2 ⟨rfl,j2⟩
 rw [hd];have RN2:=HR1N.out.below j2 HR1N.out.lt;have R22:=HR12.out.below j2 HR12.out.lt;obtain ⟨m0,m1,m2,m3,m4,m5,m6,m7,m8,m9,m10,m11,m12⟩:=kr13 RN2;obtain ⟨mf0,mf1,mf2,mf3,mf4,mf5,mf6,mf7,mf8,mf9,mf10,mf11,mf12⟩:=kq13 RN2;obtain ⟨u0,u1,u2,u3,u4,u5,u6,u7,u8,u9,u10,u11,u12⟩:=kr13 R22;obtain ⟨uf0,uf1,uf2,uf3,uf4,uf5,uf6,uf7,uf8,uf9,uf10,uf11,uf12⟩:=kq13 R22;have l1:=RN2.lt;have l2:=R22.lt;have HJ2:=Hd j2;have HRN2:=Hd RN2;have HR22:=Hd R22;clear j2 RN2 R22;go_wp2;have ho:=HO1.out;have hx2:=HJ2.out.size;refine bodyPost_ret (v := .tuple #[.agg (p.waits.cells A1 c1).toArray,q o 0 0]) (by simp [results,Tryz.results23,go_sem,PbM.cells,PbM.waits,u0,u1,u2,u3,u4,u5,u6,u7,u8,u9,u10,u11,u12]) rfl ⟨A1,c1,rfl,hc1,hm1,?_,?_⟩
 · refine zat (w:=w2) (w':=sets (w.heap.size+1+1) (sets (w.heap.size+1+1+1) w2 [(7,d m (p.since+1))]) [(0,d m p.pub),(1,d m p.first),(2,d m p.max),(3,d m p.rev),(4,s p.started),(5,d m p.state),(6,d m p.seq),(7,d m (p.since+1)),(8,d m p.gap),(9,d m 0),(10,d m 0),(11,d m 0),(12,q A1 p.vals.length c1)]) (zab ho HJ2.out (x _)) fun b hb' => ?_
   have hne:=HOFF.out b hb'
   have hW0:=HZ.out
   exact (zaf _ _ _ b (by omega)).trans (zaf _ _ _ b (by omega))
 · exact zak (by omega) [(0,d m p.pub),(1,d m p.first),(2,d m p.max),(3,d m p.rev),(4,s p.started),(5,d m p.state),(6,d m p.seq),(7,d m (p.since+1)),(8,d m p.gap),(9,d m 0),(10,d m 0),(11,d m 0),(12,q A1 p.vals.length c1)] _ (zak (by omega) [(7,d m (p.since+1))] w2 (HB1.out.trans (HJ2.out.mono HB1.out.size)))
def zfs (p':PbM) (w:World) (e:Ending) (w':World):Prop:=
 ∃ A' c' g Am cm,e = .returned (.tuple #[.agg (p'.cells A' c').toArray,q (some ⟨g,0,o⟩) 1 1])∧p'.vals.length≤c'∧c'≤maxLen∧w'.ownsRow w.heap.size 73 6 (q A' p'.vals.length c') p'.vals.length (zaT p'.vals) ∧
  Row w' g 106 (msgC p'.pub (3*p'.gap+1) p'.state p'.seq p'.rev Am p'.vals.length cm)∧w.heap.size≤g∧p'.vals.length≤cm∧cm≤maxLen∧w'.ownsRow w.heap.size 73 6 (q Am p'.vals.length cm) p'.vals.length (zaT p'.vals)∧Below w.heap.size w w'
theorem Row.drew {w:World} {g:Nat} {t:TypeId} {cs:List Value} (h:Row w g t cs):Row w.drew g t cs:=h
theorem zdr {w:World} {base n c:Nat} {A:Option Addr} {bs:List Bool} (h:w.ownsRow base 73 6 (q A n c) n (zaT bs)) (hn:bs.length=n):Rws ValR 6 w w.heap.size A n bs:=
 Rws.of_own (R:=ValR) (f:=valC) h hn (fun _ _=>rfl) (fun _ _=>rfl)
end Go.Proofs.YtjkimieapfbhbaaGreatDoor
