/-
 The program's checker of relays: its box, its maps of names and of bays; the new checker of a station.
-/
import Derived.Test.YtjkimieapfbhbaaGreatDoorKPUb
import Derived.Test.YtjkimieapfbhbaaGreatDoorKOwn
import Derived.Test.YtjkimieapfbhbaaGreatDoorKSnP
set_option maxRecDepth 100000
set_option maxHeartbeats 8000000
open Go.Value renaming slice → f, string → g, int → z, agg → E, bool → F
open Go.Obj renaming cells → r
open Go.IntKind renaming i64 → u
open Go.Proofs.Tryz renaming prog → v
open Option renaming none → D
open Nat renaming le_of_lt → G, le_refl → H, zero_le → I, lt_succ_self → K, add_zero → M
open Option.some renaming inj → J
namespace Go.Proofs.YtjkimieapfbhbaaGreatDoor
open Go.RowKit
noncomputable def bayF (bs:List Int):Lit→Option Value:=fun l=>open Classical in if ∃ b∈bs,l=Lit.int .i64 b then some (.bool true) else D
theorem zkW:bayF []=fun _=>D:=by funext l;simp [bayF]
theorem zjv (bs:List Int) (b:Int):bayF (bs++[b])=putL (bayF bs) (.int .i64 b) (.bool true):=by
 classical
 funext l
 unfold bayF putL
 by_cases h:l=Lit.int .i64 b
 · subst h;simp
 · by_cases h2:∃ b∈bs,l=Lit.int .i64 b
   · rw [if_pos (by obtain ⟨c,hc,e⟩:=h2;exact ⟨c,by simp [hc],e⟩)];simp [h,h2]
   · rw [if_neg (by
      rintro ⟨c,hc,e⟩
      rcases List.mem_append.1 hc with hc | hc
      · exact h2 ⟨c,hc,e⟩
      · simp at hc;subst hc;exact h e)];simp [h,h2]
theorem zh3 {bs:List Int} {b:Int} (h:b ∉ bs):bayF bs (.int .i64 b)=D:=by
 unfold bayF;rw [if_neg (by rintro ⟨c,hc,e⟩;cases e;exact h hc)]
theorem seenF_pre {xs ys:List ByteArray} (h:∀ (k:Nat) (x:ByteArray),xs[k]? = some x→ys[k]? = some x):zcb xs xs.length=zcb ys xs.length:=by
 have:ys.take xs.length=xs:=by
  apply List.ext_getElem?
  intro k
  by_cases hk:k<xs.length
  · rw [List.getElem?_take_of_lt hk,List.getElem?_eq_getElem hk];exact h k _ (List.getElem?_eq_getElem hk)
  · rw [List.getElem?_eq_none (by simp;omega),List.getElem?_eq_none (by omega)]
 funext s
 simp [zcb,seen,this]
structure ChkS (W:World) (c mn mb:Nat) (p:StAt) (S:StatM) (L:List ByteArray) (n:Nat) (bs:List Int):Prop where
 heap:W.heap[c]? = some (.cells #[g S.name,f p.A1 S.buses.length p.c1,f p.A2 S.lines.length p.c2,f p.A3 S.sources.length p.c3,f p.A4 S.bays.length p.c4,.map (some mn),.map (some mb)] 238 (0,0))
 ne1:mn≠c
 ne2:mb≠c
 ne3:mn≠mb
 map:MapS v 9 4 W mn n (zcb L n)
 bays:MapL v 3 4 W mb bs.length (bayF bs)
section
variable {W W' : World} {c mn mb B n : Nat} {p : StAt} {S : StatM} {L : List ByteArray} {bs : List Int}
theorem ChkS.lt (h:ChkS W c mn mb p S L n bs):c<W.heap.size:=(Array.getElem?_eq_some_iff.1 h.heap).1
theorem ChkS.cells (h:ChkS W c mn mb p S L n bs):W.cell? ⟨c,4,D⟩=some (f p.A4 S.bays.length p.c4)∧W.cell? ⟨c,5,D⟩=some (.map (some mn))∧W.cell? ⟨c,6,D⟩=some (.map (some mb)):=by
 have hh:=h.heap;exact ⟨by simp [World.cell?,hh],by simp [World.cell?,hh],by simp [World.cell?,hh]⟩
theorem ChkS.free (h:ChkS W c mn mb p S L n bs) (k:Nat):W.frozen? ⟨c,k,D⟩=false:=by
 have hh:=h.heap;simp [World.frozen?,hh]
theorem ChkS.below (h:ChkS W c mn mb p S L n bs) (hb:Below B W W') (h1:c<B) (h2:mn<B) (h3:mb<B):ChkS W' c mn mb p S L n bs:=
 ⟨(hb.block c h1).trans h.heap,h.ne1,h.ne2,h.ne3,h.map.kept (hb.block mn h2),h.bays.kept (hb.block mb h3)⟩
theorem ChkS.drew (h:ChkS W c mn mb p S L n bs):ChkS W.drew c mn mb p S L n bs:=⟨h.heap,h.ne1,h.ne2,h.ne3,h.map.kept rfl,h.bays.kept rfl⟩
theorem ChkS.put {s:ByteArray} (h:ChkS W c mn mb p S L n bs) (hs:L[n]? = some s) (hm:MapS v 9 4 W' mn (n+1) (putS (zcb L n) s (F true))) (hg:W.grownBy W' (some mn)):ChkS W' c mn mb p S L (n+1) bs:=
 ⟨(hg.block c h.lt (fun q=>h.ne1 (J q).symm)).trans h.heap,h.ne1,h.ne2,h.ne3,by rw [zbt hs];exact hm,h.bays.kept (hg.block mb h.bays.block (fun q=>h.ne3 (J q).symm))⟩
theorem ChkS.putBay {b:Int} (h:ChkS W c mn mb p S L n bs) (hm:MapL v 3 4 W' mb (bs.length+1) (putL (bayF bs) (.int .i64 b) (.bool true))) (hg:W.grownBy W' (some mb)):ChkS W' c mn mb p S L n (bs++[b]):=
 ⟨(hg.block c h.lt (fun q=>h.ne2 (J q).symm)).trans h.heap,h.ne1,h.ne2,h.ne3,h.map.kept (hg.block mn h.map.block (fun q=>h.ne3 (J q))),by rw [zjv,List.length_append];exact hm⟩
end
def KnC (c mn mb:Nat) (p:StAt) (S:StatM) (L:List ByteArray) (base N:Nat) (W1:World) (i:Value) (wr:World):Prop:=
 ∃ k:Nat,k≤N∧i = z u k∧ChkS wr c mn mb p S L (base+k) []∧Below mn W1 wr
def RetChk (p:StAt) (S:StatM) (L:List ByteArray) (w:World) (e:Ending) (w':World):Prop:=
 ∃ c mn mb,e = .returned (.pointer (some ⟨c,0,D⟩))∧w.heap.size≤mn∧mn<mb∧mb<c∧ChkS w' c mn mb p S L S.names.length []∧Below w.heap.size w w'
theorem zl7 (p:StAt) (S:StatM) (L:List ByteArray) (w:World):ChkS ((((w.alloc (r #[g S.name,f p.A1 S.buses.length p.c1,f p.A2 S.lines.length p.c2,f p.A3 S.sources.length p.c3,f p.A4 S.bays.length p.c4] 27)).alloc (Obj.map #[] 0)).alloc (Obj.map #[] 0)).alloc (r #[g S.name,f p.A1 S.buses.length p.c1,f p.A2 S.lines.length p.c2,f p.A3 S.sources.length p.c3,f p.A4 S.bays.length p.c4,.map (some (w.heap.size+1)),.map (some (w.heap.size+1+1))] 238)) (w.heap.size+1+1+1) (w.heap.size+1) (w.heap.size+1+1) p S L 0 []∧Below w.heap.size w ((((w.alloc (r #[g S.name,f p.A1 S.buses.length p.c1,f p.A2 S.lines.length p.c2,f p.A3 S.sources.length p.c3,f p.A4 S.bays.length p.c4] 27)).alloc (Obj.map #[] 0)).alloc (Obj.map #[] 0)).alloc (r #[g S.name,f p.A1 S.buses.length p.c1,f p.A2 S.lines.length p.c2,f p.A3 S.sources.length p.c3,f p.A4 S.bays.length p.c4,.map (some (w.heap.size+1)),.map (some (w.heap.size+1+1))] 238))∧w.heap.size+1+1+1<((((w.alloc (r #[g S.name,f p.A1 S.buses.length p.c1,f p.A2 S.lines.length p.c2,f p.A3 S.sources.length p.c3,f p.A4 S.bays.length p.c4] 27)).alloc (Obj.map #[] 0)).alloc (Obj.map #[] 0)).alloc (r #[g S.name,f p.A1 S.buses.length p.c1,f p.A2 S.lines.length p.c2,f p.A3 S.sources.length p.c3,f p.A4 S.bays.length p.c4,.map (some (w.heap.size+1)),.map (some (w.heap.size+1+1))] 238)).heap.size:=by
 refine ⟨⟨?_,by omega,by omega,by omega,?_,?_⟩,?_,by simp⟩
 · rw [show w.heap.size+1+1+1=(((w.alloc (r #[g S.name,f p.A1 S.buses.length p.c1,f p.A2 S.lines.length p.c2,f p.A3 S.sources.length p.c3,f p.A4 S.bays.length p.c4] 27)).alloc (Obj.map #[] 0)).alloc (Obj.map #[] 0)).heap.size by simp]
   exact heap_alloc_new _ _
 · have h1:MapS v 9 4 ((w.alloc (r #[g S.name,f p.A1 S.buses.length p.c1,f p.A2 S.lines.length p.c2,f p.A3 S.sources.length p.c3,f p.A4 S.bays.length p.c4] 27)).alloc (Obj.map #[] 0)) (w.heap.size+1) 0 (zcb L 0):=by
    rw [zbu,show w.heap.size+1=(w.alloc (r #[g S.name,f p.A1 S.buses.length p.c1,f p.A2 S.lines.length p.c2,f p.A3 S.sources.length p.c3,f p.A4 S.bays.length p.c4] 27)).heap.size by simp];exact MapS.made v 9 4 _
   exact (h1.alloc _).alloc _
 · have h1:MapL v 3 4 (((w.alloc (r #[.string S.name,.slice p.A1 S.buses.length p.c1,.slice p.A2 S.lines.length p.c2,.slice p.A3 S.sources.length p.c3,.slice p.A4 S.bays.length p.c4] 27)).alloc (Obj.map #[] 0)).alloc (Obj.map #[] 0)) (w.heap.size+1+1) 0 (bayF []):=by
    rw [zkW,show w.heap.size+1+1=((w.alloc (r #[.string S.name,.slice p.A1 S.buses.length p.c1,.slice p.A2 S.lines.length p.c2,.slice p.A3 S.sources.length p.c3,.slice p.A4 S.bays.length p.c4] 27)).alloc (Obj.map #[] 0)).heap.size by simp];exact MapL.made v 3 4 _
   exact h1.kept (Below.heap_alloc _ _ _ (by simp))
 · exact ((((Below.refl _ _).alloc (H _) _).alloc (by simp) _).alloc (by simp;omega) _).alloc (by simp;omega) _
theorem zfH (B:Nat) (p:StAt) (S:StatM) (L:List ByteArray) (w:World) (hB:B≤w.heap.size) (hS:StC w B p S) (hF:StF S) (hL:∀ (k:Nat) (x:ByteArray),S.names[k]? = some x→L[k]? = some x) :
 Calls v 101 #[E #[g S.name,f p.A1 S.buses.length p.c1,f p.A2 S.lines.length p.c2,f p.A3 S.sources.length p.c3,f p.A4 S.bays.length p.c4]] w (RetChk p S L w):=by
 have hmm := @run_makeMap v;obtain ⟨-,hn1⟩:=hF.n1;have hn2:=hF.n2;have hn3:=hF.n3;have hn4:=hF.n4;have HS:=Hd hS;have HL:=Hd hL;have HN:=Hd (zbv S);obtain ⟨A1,A2,A3,A4,c1,c2,c3,c4⟩:=p;simp only at *;clear hF hS hL;obtain ⟨h1,hb1,hz1⟩:=zl7 ⟨A1,A2,A3,A4,c1,c2,c3,c4⟩ S L w
 have s0:((((w.alloc (r #[g S.name,f A1 S.buses.length c1,f A2 S.lines.length c2,f A3 S.sources.length c3,f A4 S.bays.length c4] 27)).alloc (Obj.map #[] 0)).alloc (Obj.map #[] 0)).alloc (r #[g S.name,f A1 S.buses.length c1,f A2 S.lines.length c2,f A3 S.sources.length c3,f A4 S.bays.length c4,.map (some (w.heap.size+1)),.map (some (w.heap.size+1+1))] 238)).cell? ⟨w.heap.size,0,D⟩=some (g S.name):=by
  rw [cell?_alloc_old _ _ _ _ (by simp;omega),cell?_alloc_old _ _ _ _ (by simp;omega),cell?_alloc_old _ _ _ _ (by simp)];simp
 have s1:((((w.alloc (r #[g S.name,f A1 S.buses.length c1,f A2 S.lines.length c2,f A3 S.sources.length c3,f A4 S.bays.length c4] 27)).alloc (Obj.map #[] 0)).alloc (Obj.map #[] 0)).alloc (r #[g S.name,f A1 S.buses.length c1,f A2 S.lines.length c2,f A3 S.sources.length c3,f A4 S.bays.length c4,.map (some (w.heap.size+1)),.map (some (w.heap.size+1+1))] 238)).cell? ⟨w.heap.size,1,D⟩=some (f A1 S.buses.length c1):=by
  rw [cell?_alloc_old _ _ _ _ (by simp;omega),cell?_alloc_old _ _ _ _ (by simp;omega),cell?_alloc_old _ _ _ _ (by simp)];simp
 have s2:((((w.alloc (r #[g S.name,f A1 S.buses.length c1,f A2 S.lines.length c2,f A3 S.sources.length c3,f A4 S.bays.length c4] 27)).alloc (Obj.map #[] 0)).alloc (Obj.map #[] 0)).alloc (r #[g S.name,f A1 S.buses.length c1,f A2 S.lines.length c2,f A3 S.sources.length c3,f A4 S.bays.length c4,.map (some (w.heap.size+1)),.map (some (w.heap.size+1+1))] 238)).cell? ⟨w.heap.size,2,D⟩=some (f A2 S.lines.length c2):=by
  rw [cell?_alloc_old _ _ _ _ (by simp;omega),cell?_alloc_old _ _ _ _ (by simp;omega),cell?_alloc_old _ _ _ _ (by simp)];simp
 have s3:((((w.alloc (r #[g S.name,f A1 S.buses.length c1,f A2 S.lines.length c2,f A3 S.sources.length c3,f A4 S.bays.length c4] 27)).alloc (Obj.map #[] 0)).alloc (Obj.map #[] 0)).alloc (r #[g S.name,f A1 S.buses.length c1,f A2 S.lines.length c2,f A3 S.sources.length c3,f A4 S.bays.length c4,.map (some (w.heap.size+1)),.map (some (w.heap.size+1+1))] 238)).cell? ⟨w.heap.size,3,D⟩=some (f A3 S.sources.length c3):=by
  rw [cell?_alloc_old _ _ _ _ (by simp;omega),cell?_alloc_old _ _ _ _ (by simp;omega),cell?_alloc_old _ _ _ _ (by simp)];simp
 have s4:((((w.alloc (r #[g S.name,f A1 S.buses.length c1,f A2 S.lines.length c2,f A3 S.sources.length c3,f A4 S.bays.length c4] 27)).alloc (Obj.map #[] 0)).alloc (Obj.map #[] 0)).alloc (r #[g S.name,f A1 S.buses.length c1,f A2 S.lines.length c2,f A3 S.sources.length c3,f A4 S.bays.length c4,.map (some (w.heap.size+1)),.map (some (w.heap.size+1+1))] 238)).cell? ⟨w.heap.size,4,D⟩=some (f A4 S.bays.length c4):=by
  rw [cell?_alloc_old _ _ _ _ (by simp;omega),cell?_alloc_old _ _ _ _ (by simp;omega),cell?_alloc_old _ _ _ _ (by simp)];simp
 simp only at h1 hb1 hz1;have hm1:w.heap.size<w.heap.size+1:=K _;have hm2:w.heap.size+1<w.heap.size+1+1:=K _;have hm3:w.heap.size+1+1<w.heap.size+1+1+1:=K _;go_enter Tryz.func101,Tryz.ntmps101;go_upto_region 2 with fail
 clear hmm;generalize (((w.alloc (r #[g S.name,f A1 S.buses.length c1,f A2 S.lines.length c2,f A3 S.sources.length c3,f A4 S.bays.length c4] 27)).alloc (Obj.map #[] 0)).alloc (Obj.map #[] 0)).alloc (r #[g S.name,f A1 S.buses.length c1,f A2 S.lines.length c2,f A3 S.sources.length c3,f A4 S.bays.length c4,.map (some (w.heap.size+1)),.map (some (w.heap.size+1+1))] 238)=W1 at *;generalize w.heap.size+1+1+1=c at *;generalize w.heap.size+1+1=mb at *;generalize w.heap.size+1=mn at *;have H1:=Hd h1;have HB1:=Hd hb1;clear h1 hb1;go_wp2
 go_loopw [20] (KnC c mn mb ⟨A1,A2,A3,A4,c1,c2,c3,c4⟩ S L (0) S.buses.length W1) (fun i _=>S.buses.length-(intOf i).toNat)
 case atStart=>exact ⟨0,I _,rfl,H1.out,Below.refl _ _⟩
 case round =>
  obtain ⟨k,hk,rfl,hch,hbel⟩:=hrel;have gc:=hch.lt;have gn:=hch.map.block;have hsz:=hbel.size;have hwb:=HB1.out.trans (hbel.mono (G hm1));obtain ⟨t0,t1,t2,t3,t4⟩:=kb5 hbel hm1 ⟨s0,s1,s2,s3,s4⟩
  by_cases hlt:k<S.buses.length
  · obtain ⟨b,o,x,hA,hbB,hx,hsx,hc⟩:=(HS.out.buses.mono StrC.mono (H _) (hwb.mono hB)).strAt hlt
    cases hA
    obtain ⟨-,d5,-⟩:=hch.cells
    obtain ⟨w',hup,hm',hg⟩:=hch.map.store (t := 233) Tryz.underlying9 Tryz.underlying233 (by unfold maxLen;omega) hsx (plainElem_bool Tryz.underlying4 true)
    have HC:=Hd (hch.put (HL.out _ _ (by rw [Nat.zero_add];exact zdy hx)) hm' hg)
    have HB:=Hd (hbel.trans (zaO hg (G gn)))
    clear hch hm' hg hx hwb hbel
    go_wp2
    go_roundw
    case rel=>exact ⟨k+1,by omega,by go_num,HC.out,HB.out⟩
    case measure=>simp [intOf];omega
  · obtain rfl:k=S.buses.length:=by omega
    have H2:=Hd (show ChkS wr c mn mb ⟨A1,A2,A3,A4,c1,c2,c3,c4⟩ S L (S.buses.length+0) [] by simpa using hch)
    have HB2:=Hd hbel
    clear hch hwb hbel
    go_wp2
    clear t0 t1 t2 t3 t4
    go_loopw [33] (KnC c mn mb ⟨A1,A2,A3,A4,c1,c2,c3,c4⟩ S L (S.buses.length) S.lines.length W1) (fun i _=>S.lines.length-(intOf i).toNat)
    case atStart=>exact ⟨0,I _,rfl,H2.out,HB2.out⟩
    case round =>
     obtain ⟨k,hk,rfl,hch,hbel⟩:=hrel
     have gc:=hch.lt
     have gn:=hch.map.block
     have hsz:=hbel.size
     have hwb:=HB1.out.trans (hbel.mono (G hm1))
     obtain ⟨t0,t1,t2,t3,t4⟩:=kb5 hbel hm1 ⟨s0,s1,s2,s3,s4⟩
     by_cases hlt:k<S.lines.length
     · obtain ⟨b,o,cs,x,hA,hbB,hx,-,⟨rfl,hsx⟩,hat⟩:=(HS.out.lines.mono LineC.mono (H _) (hwb.mono hB)).at_ hlt
       cases hA
       have x_0:=zae hat 0 rfl
       have x_1:=zae hat 1 rfl
       have x_2:=zae hat 2 rfl
       have x_3:=zae hat 3 rfl
       have x_4:=zae hat 4 rfl
       simp only [M] at x_0
       have hbw:b<wr.heap.size:=by omega
       have hbx:=zaa wr (r #[g x.name,z u x.r1,z u x.x1,z u x.r0,z u x.x0] 119)
       have hch2:=hch.below hbx gc gn hch.bays.block
       obtain ⟨-,d5,-⟩:=hch2.cells
       have gc2:=hch2.lt
       obtain ⟨w',hup,hm',hg⟩:=hch2.drew.map.store (t := 233) Tryz.underlying9 Tryz.underlying233 (by unfold maxLen;omega) hsx (plainElem_bool Tryz.underlying4 true)
       have HC:=Hd (hch2.drew.put (HL.out _ _ (zdz hx)) hm' hg)
       have HB:=Hd ((hbel.trans ((hbx.mono (G gn)).drew)).trans (zaO hg (by show mn≤_;simp;omega)))
       clear hch hch2 hm' hg hx hwb hbel hbx hat
       go_wp2
       go_region
       go_wp2
       go_roundw
       case rel=>exact ⟨k+1,by omega,by go_num,HC.out,HB.out⟩
       case measure=>simp [intOf];omega
     · obtain rfl:k=S.lines.length:=by omega
       have H3:=Hd (show ChkS wr c mn mb ⟨A1,A2,A3,A4,c1,c2,c3,c4⟩ S L (S.buses.length+S.lines.length+0) [] from hch)
       have HB3:=Hd hbel
       clear hch hwb hbel
       go_wp2
       clear t0 t1 t2 t3 t4
       go_loopw [47] (KnC c mn mb ⟨A1,A2,A3,A4,c1,c2,c3,c4⟩ S L (S.buses.length+S.lines.length) S.sources.length W1) (fun i _=>S.sources.length-(intOf i).toNat)
       case atStart=>exact ⟨0,I _,rfl,H3.out,HB3.out⟩
       case round =>
        obtain ⟨k,hk,rfl,hch,hbel⟩:=hrel
        have gc:=hch.lt
        have gn:=hch.map.block
        have hsz:=hbel.size
        have hwb:=HB1.out.trans (hbel.mono (G hm1))
        obtain ⟨t0,t1,t2,t3,t4⟩:=kb5 hbel hm1 ⟨s0,s1,s2,s3,s4⟩
        by_cases hlt:k<S.sources.length
        · obtain ⟨b,o,cs,x,hA,hbB,hx,-,⟨rfl,hsx⟩,hat⟩:=(HS.out.sources.mono SourceC.mono (H _) (hwb.mono hB)).at_ hlt
          cases hA
          have x_0:=zae hat 0 rfl
          have x_1:=zae hat 1 rfl
          have x_2:=zae hat 2 rfl
          have x_3:=zae hat 3 rfl
          have x_4:=zae hat 4 rfl
          have x_5:=zae hat 5 rfl
          simp only [M] at x_0
          have hbw:b<wr.heap.size:=by omega
          have hbx:=zaa wr (r #[g x.name,z u x.emf,z u x.r1,z u x.x1,z u x.r0,z u x.x0] 122)
          have hch2:=hch.below hbx gc gn hch.bays.block
          obtain ⟨-,d5,-⟩:=hch2.cells
          have gc2:=hch2.lt
          obtain ⟨w',hup,hm',hg⟩:=hch2.drew.map.store (t := 233) Tryz.underlying9 Tryz.underlying233 (by unfold maxLen;omega) hsx (plainElem_bool Tryz.underlying4 true)
          have HC:=Hd (hch2.drew.put (HL.out _ _ (zdA hx)) hm' hg)
          have HB:=Hd ((hbel.trans ((hbx.mono (G gn)).drew)).trans (zaO hg (by show mn≤_;simp;omega)))
          clear hch hch2 hm' hg hx hwb hbel hbx hat
          go_wp2
          go_region
          go_wp2
          go_roundw
          case rel=>exact ⟨k+1,by omega,by go_num,HC.out,HB.out⟩
          case measure=>simp [intOf];omega
        · obtain rfl:k=S.sources.length:=by omega
          have H4:=Hd (show ChkS wr c mn mb ⟨A1,A2,A3,A4,c1,c2,c3,c4⟩ S L (S.buses.length+S.lines.length+S.sources.length+0) [] from hch)
          have HB4:=Hd hbel
          clear hch hwb hbel
          go_wp2
          clear t0 t1 t2 t3 t4
          go_loopw [61] (KnC c mn mb ⟨A1,A2,A3,A4,c1,c2,c3,c4⟩ S L (S.buses.length+S.lines.length+S.sources.length) S.bays.length W1) (fun i _=>S.bays.length-(intOf i).toNat)
          case atStart=>exact ⟨0,I _,rfl,H4.out,HB4.out⟩
          case round =>
           obtain ⟨k,hk,rfl,hch,hbel⟩:=hrel
           have gc:=hch.lt
           have gn:=hch.map.block
           have hsz:=hbel.size
           have hwb:=HB1.out.trans (hbel.mono (G hm1))
           obtain ⟨t0,t1,t2,t3,t4⟩:=kb5 hbel hm1 ⟨s0,s1,s2,s3,s4⟩
           by_cases hlt:k<S.bays.length
           · obtain ⟨b,o,cs,x,hA,hbB,hx,-,⟨AL,cL,rfl,hsx,-,-,-⟩,hat⟩:=(HS.out.bays.mono BayC.mono (H _) (hwb.mono hB)).at_ hlt
             cases hA
             have x_0:=zae hat 0 rfl
             have x_1:=zae hat 1 rfl
             have x_2:=zae hat 2 rfl
             have x_3:=zae hat 3 rfl
             have x_4:=zae hat 4 rfl
             have x_5:=zae hat 5 rfl
             have x_6:=zae hat 6 rfl
             have x_7:=zae hat 7 rfl
             have x_8:=zae hat 8 rfl
             have x_9:=zae hat 9 rfl
             have x_10:=zae hat 10 rfl
             have x_11:=zae hat 11 rfl
             simp only [M] at x_0
             have hbw:b<wr.heap.size:=by omega
             have hbx:=zaa wr (r #[g x.name,z u x.kind,z u x.ofi,z u x.en,z u x.zr,z u x.zx,f AL x.links.length cL,F x.closed,z u x.ct,z u x.vt,z u x.sat,z u x.travel] 113)
             have hch2:=hch.below hbx gc gn hch.bays.block
             obtain ⟨-,d5,-⟩:=hch2.cells
             have gc2:=hch2.lt
             obtain ⟨w',hup,hm',hg⟩:=hch2.drew.map.store (t := 233) Tryz.underlying9 Tryz.underlying233 (by unfold maxLen;omega) hsx (plainElem_bool Tryz.underlying4 true)
             have HC:=Hd (hch2.drew.put (HL.out _ _ (zdB hx)) hm' hg)
             have HB:=Hd ((hbel.trans ((hbx.mono (G gn)).drew)).trans (zaO hg (by show mn≤_;simp;omega)))
             clear hch hch2 hm' hg hx hwb hbel hbx hat
             go_wp2
             go_region
             go_wp2
             go_roundw
             case rel=>exact ⟨k+1,by omega,by go_num,HC.out,HB.out⟩
             case measure=>simp [intOf];omega
           · obtain rfl:k=S.bays.length:=by omega
             have HE:=Hd (show ChkS wr c mn mb ⟨A1,A2,A3,A4,c1,c2,c3,c4⟩ S L S.names.length [] by rw [show S.names.length=S.buses.length+S.lines.length+S.sources.length+S.bays.length by rw [HN.out];omega];exact hch)
             have HW:=Hd hwb
             clear hch hwb hbel
             go_wp2
             go_ret
             exact ⟨c,mn,mb,rfl,G hm1,hm2,hm3,HE.out,HW.out⟩
theorem zeroBool2 (w:World):(zeroValue 4).run v w = .ok (F false) w:=zbQ w
theorem zh4 {W:World} {mb:Nat} {bs:List Int} {b:Int} (h:MapL v 3 4 W mb bs.length (bayF bs)) (hb : -1≤b∧b≤1000) (hn:b ∉ bs) (q:Nat) :
 (Instr.lookup 236 (.map (some mb)) (z u b) false).run v (W.drewN q) = .ok (F false) (W.drewN q):=by
 have h1:=(h.kept (w':=W.drewN q) rfl).look (t := 236) (Maps.int_keyed Tryz.underlying3) Tryz.underlying236 (zbQ _) (Maps.keyOf_int_mk Tryz.underlying3 (WalkArith.wf_i64 (n:=b) (by omega))) false;rw [h1,zh3 hn]
 rfl
theorem zlm (c mn mb n0:Nat) (p:StAt) (S:StatM) (L:List ByteArray) (bs:List Int) (B:Nat) (nm:ByteArray) (k:Int) (n:NumM) (c49 c50 c51 c52:Value) (cs:List Value) (hcs:cs=zbd nm k n c49 c50 c51 c52) (w:World)
 (hB:B≤w.heap.size) (h:ChkS w c mn mb p S L n0 bs) (hS:Rws BayC 12 w B p.A4 S.bays.length S.bays) (h4:S.bays.length≤16)
 (hp:(k=4∧n.bay = -1)∨((k=1∨k=2∨k=3)∧0≤n.bay∧∃ b,S.bays[n.bay.toNat]? = some b∧b.kind=k)) (hnew:n.bay ∉ bs) :
 Calls v 134 #[.pointer (some ⟨c,0,D⟩),.agg cs.toArray] w (zaU 0 w):=by
 have q1:=rq w hcs 1 rfl;have q2:=rq w hcs 2 rfl;obtain ⟨A1,A2,A3,A4,c1,c2,c3,c4⟩:=p;have hb:=zaa w (r cs.toArray 60);have hg:w.heap.size<(w.alloc (r cs.toArray 60)).heap.size:=by simp
 have h1:=h.below hb h.lt h.map.block h.bays.block;have hS1:=hS.mono BayC.mono (H _) (hb.mono hB);have hlt:=h1.lt;clear hcs h hS;obtain ⟨d4,d5,d6⟩:=h1.cells;simp only at d4 hS1
 rcases hp with ⟨rfl,hbay⟩ | ⟨hk,h0,y,hy,hyk⟩
 · rw [hbay] at q2 hnew
   have hlk:=zh4 h1.bays (by omega) hnew
   have hlk0:=hlk 0
   clear hbay hnew h1 hS1
   go_enter Tryz.func134,Tryz.ntmps134
   go_upto_region 1 with fail
   generalize w.alloc (r cs.toArray 60)=W0 at *
   go_wp2
   go_quiet (fail)
   go_wp2
   go_quiet (fail)
   go_wp2
   go_ret
   exact ⟨rfl,zag (zag hb _) _⟩
 · obtain ⟨m,hm⟩:∃ m:Nat,n.bay=(m:Int):=⟨n.bay.toNat,by omega⟩
   rw [hm] at q2 hnew hy
   simp only [Int.toNat_natCast] at hy
   have hml:m<S.bays.length:=(List.getElem?_eq_some_iff.1 hy).1
   have hlk:=zh4 h1.bays (by omega) hnew
   obtain ⟨b,o,ds,y',hA,hbb,hy',-,⟨A5,c5,rfl,-,-,-,-⟩,hat⟩:=hS1.at_ hml
   subst hA
   rw [hy] at hy'
   cases hy'
   have e1:=hat 1 _ rfl
   have hbb2:b<(w.alloc (r cs.toArray 60)).heap.size:=by omega
   have hmi:(m:Int)<(S.bays.length:Int):=by omega
   have hmi0:(0:Int)≤(m:Int):=by omega
   rw [hyk] at e1
   clear hm hnew h1 hS1 hat hy hyk h0
   rcases hk with rfl | rfl | rfl
   all_goals
    go_enter Tryz.func134,Tryz.ntmps134
    go_upto_region 1 with fail
    generalize w.alloc (r cs.toArray 60)=W0 at *
    go_wp2
    go_quiet ((go_at_call 157;first | exact zkf (za9 m 0 (S.bays.length-1) ⟨by omega,by omega⟩ _) | exact zbZ (za9 m 0 (S.bays.length-1) ⟨by omega,by omega⟩ _)))
    go_wp2
    go_quiet (fail)
    go_wp2
    go_ret
    exact ⟨rfl,zag (zag hb _) _⟩
theorem zkY (s:ByteArray):∃ l:List UInt8,s=⟨l.toArray⟩:=⟨s.data.toList,by cases s;simp⟩
theorem zhH (s:ByteArray) (h:seen zaq zaq.length s=false) (w:World):Calls v 163 #[g s] w fun e w'=>e = .returned (F false)∧w=w':=by
 obtain ⟨l,rfl⟩:=zkY s
 have key:∀ y∈zaq,(l == y.data.toList)=false:=by
  intro y hy;have h1:(zaq.take zaq.length).any (fun y=>same y ⟨l.toArray⟩)=false:=h;rw [List.take_length,List.any_eq_false] at h1;have h2:=h1 y hy;simp only [same,zbC,Bool.not_eq_true] at h2;rw [beq_eq_false_iff_ne] at h2 ⊢;exact fun q=>h2 q.symm
 have e0:(l == [116, 114, 117, 101])=false:=key ⟨#[116,114,117,101]⟩ (by simp [zaq]);have e1:(l == [102, 97, 108, 115, 101])=false:=key ⟨#[102,97,108,115,101]⟩ (by simp [zaq]);have e2:(l == [110, 111, 116])=false:=key ⟨#[110,111,116]⟩ (by simp [zaq]);have e3:(l == [97, 110, 100])=false:=key ⟨#[97,110,100]⟩ (by simp [zaq]);have e4:(l == [111, 114])=false:=key ⟨#[111,114]⟩ (by simp [zaq]);have e5:(l == [120, 111, 114])=false:=key ⟨#[120,111,114]⟩ (by simp [zaq]);have e6:(l == [109, 105, 110])=false:=key ⟨#[109,105,110]⟩ (by simp [zaq]);have e7:(l == [109, 97, 120])=false:=key ⟨#[109,97,120]⟩ (by simp [zaq]);have e8:(l == [97, 98, 115])=false:=key ⟨#[97,98,115]⟩ (by simp [zaq]);have e9:(l == [105, 102])=false:=key ⟨#[105,102]⟩ (by simp [zaq]);have e10:(l == [114, 105, 115, 101])=false:=key ⟨#[114,105,115,101]⟩ (by simp [zaq]);have e11:(l == [102, 97, 108, 108])=false:=key ⟨#[102,97,108,108]⟩ (by simp [zaq]);have e12:(l == [100, 101, 108, 97, 121])=false:=key ⟨#[100,101,108,97,121]⟩ (by simp [zaq]);have e13:(l == [104, 111, 108, 100])=false:=key ⟨#[104,111,108,100]⟩ (by simp [zaq]);have e14:(l == [108, 97, 116, 99, 104])=false:=key ⟨#[108,97,116,99,104]⟩ (by simp [zaq]);have e15:(l == [99, 111, 117, 110, 116])=false:=key ⟨#[99,111,117,110,116]⟩ (by simp [zaq]);clear key h;go_enter Tryz.func163,Tryz.ntmps163;go_wp2;go_ret
 exact ⟨rfl,rfl⟩
theorem ziV (s:ByteArray) (h:NameOk s) (w:World):Calls v 188 #[g s] w fun e w'=>e = .returned (F false)∧w=w':=by
 have HN:=Hd h;clear h;go_enter Tryz.func188,Tryz.ntmps188;go_wp2_with (go_at_call 91;refine (zdp s _ HN.out).mono ?_;rintro e w1 ⟨rfl,rfl⟩)
 go_ret
 exact ⟨rfl,rfl⟩
theorem ziK (A:Option Addr) (c B:Nat) (xs:List ByteArray) (w:World) (hB:B≤w.heap.size) (hr:Rws StrC 1 w B A xs.length xs) (hn:xs.length≤1000) (hs:∀ (k:Nat) (x:ByteArray),xs[k]? = some x→NameOk x) :
 Calls v 195 #[f A xs.length c,.func (.func 188) #[] #[]] w (zaU (-1) w):=by
 have HS:=Hd hs;clear hs;go_enter Tryz.func195,Tryz.ntmps195;go_wp2
 go_loopw [8] (zco w.heap.size w xs.length (fun _=>True)) (fun i _=>xs.length-(intOf i).toNat)
 case atStart=>exact ⟨0,I _,rfl,trivial,Below.refl _ _⟩
 case round =>
  obtain ⟨k,hk,rfl,-,hbel⟩:=hrel
  by_cases hlt:k<xs.length
  · obtain ⟨b,o,x,rfl,hbB,hx,hl,hat⟩:=hr.strAt hlt
    have hc0:wr.cell? ⟨b,o+k,D⟩=some (g x):=(hbel.cell (by show b<w.heap.size;omega)).trans hat
    have HC:=Hd (ziV x (HS.out k x hx) wr)
    clear hx hat hr hl
    go_wp2_with (go_at_call 188;refine HC.out.mono ?_;rintro e w2 ⟨rfl,rfl⟩)
    go_roundw
    case rel=>exact ⟨k+1,by omega,by go_num,trivial,hbel⟩
    case measure=>simp [intOf];omega
  · go_wp2
    go_ret
    exact ⟨rfl,hbel⟩
theorem zif (A:Option Addr) (c B:Nat) (xs:List ByteArray) (w:World) (hB:B≤w.heap.size) (hr:Rws StrC 1 w B A xs.length xs) (hn:xs.length≤1000) (hs:∀ (k:Nat) (x:ByteArray),xs[k]? = some x→NameOk x) :
 Calls v 167 #[f A xs.length c] w (zaG true w):=by
 have C:Calls v 187 #[f A xs.length c,.func (.func 188) #[] #[]] w (zaG false w):=by
  have HC:=Hd (ziK A c B xs w hB hr hn hs);clear hr hs;go_enter Tryz.func187,Tryz.ntmps187;go_wp2_with (go_at_call 195;refine HC.out.mono ?_;rintro e w2 ⟨rfl,hb2⟩)
  go_ret
  exact ⟨rfl,hb2⟩
 have HC:=Hd C;clear C hr hs;go_enter Tryz.func167,Tryz.ntmps167;go_wp2_with (go_at_call 187;refine HC.out.mono ?_;rintro e w2 ⟨rfl,hb2⟩)
 go_ret
 exact ⟨rfl,hb2⟩
theorem zgU (x:ByteArray × ByteArray) (w:World) (h1:NameOk x.1) (h2:seen zaq zaq.length x.1=false):Calls v 162 #[E #[g x.1,g x.2]] w (zaG true w):=by
 have H1:=Hd h1;have H2:=Hd h2;clear h1 h2;go_enter Tryz.func162,Tryz.ntmps162;go_wp2_with (first | (go_at_call 91;refine (zdp x.1 _ H1.out).mono ?_;rintro e w1 ⟨rfl,rfl⟩) | (go_at_call 163;refine (zhH x.1 H2.out _).mono ?_;rintro e w1 ⟨rfl,rfl⟩))
 go_ret
 exact ⟨rfl,zaa _ _⟩
theorem zfi (a b:ByteArray) (w:World):Calls v 164 #[E #[g a,g b]] w (ze5 a w):=by
 go_enter Tryz.func164,Tryz.ntmps164;go_wp2;go_ret
 exact ⟨rfl,zaa _ _⟩
theorem zg1 (a:ByteArray) (b:Value) (w:World):Calls v 168 #[E #[g a,b]] w (ze5 a w):=by
 go_enter Tryz.func168,Tryz.ntmps168;go_wp2;go_ret
 exact ⟨rfl,zaa _ _⟩
theorem zgF (a:ByteArray) (b c:Value) (w:World):Calls v 170 #[E #[g a,b,c]] w (ze5 a w):=by
 go_enter Tryz.func170,Tryz.ntmps170;go_wp2;go_ret
 exact ⟨rfl,zaa _ _⟩
theorem zg9 (a b c d:ByteArray) (w:World):Calls v 173 #[E #[g a,g b,g c,g d]] w (ze5 a w):=by
 go_enter Tryz.func173,Tryz.ntmps173;go_wp2;go_ret
 exact ⟨rfl,zaa _ _⟩
theorem zhS (x:ByteArray × List ByteArray) (A:Option Addr) (c B:Nat) (w:World) (hB:B≤w.heap.size) (hr:Rws StrC 1 w B A x.2.length x.2) (hn:x.2.length≤1000) (h1:NameOk x.1) (h2:∀ (j:Nat) (y:ByteArray),x.2[j]? = some y→NameOk y) :
 Calls v 166 #[E #[g x.1,f A x.2.length c]] w (zaG true w):=by
 have hb:=zaa w (r #[g x.1,f A x.2.length c] 146);have H1:=Hd h1;have HC:=Hd (zif A c B x.2 (w.alloc (r #[g x.1,f A x.2.length c] 146)) (by simp;omega) (hr.mono StrC.mono (H _) (hb.mono hB)) hn h2);clear h1 h2 hr;go_enter Tryz.func166,Tryz.ntmps166;go_wp2_with (first | (go_at_call 91;refine (zdp x.1 _ H1.out).mono ?_;rintro e w1 ⟨rfl,rfl⟩) | (go_at_call 167;refine HC.out.mono ?_;rintro e w2 ⟨rfl,hb2⟩))
 go_ret
 exact ⟨rfl,Below.then hb hb2⟩
theorem zhG (x:PubN) (w:World) (h1:NameOk x.set):Calls v 169 #[E #[g x.set,z u x.first,z u x.max]] w (zaG true w):=by
 have H1:=Hd h1;clear h1;go_enter Tryz.func169,Tryz.ntmps169;go_wp2_with (first | (go_at_call 91;refine (zdp x.set _ H1.out).mono ?_;rintro e w1 ⟨rfl,rfl⟩))
 go_ret
 exact ⟨rfl,zaa _ _⟩
theorem zgz (x:PubN) (w:World) (h1:1≤x.first∧x.first≤100) (h2:x.first≤x.max∧x.max≤1000):Calls v 171 #[E #[g x.set,z u x.first,z u x.max]] w (zaU 0 w):=by
 have H1:=Hd h1;have H2:=Hd h2;clear h1 h2;go_enter Tryz.func171,Tryz.ntmps171;go_wp2_with (first | (go_at_call 157;(with_reducible refine (za9 x.first 1 100 H1.out _).mono ?_);rintro e w' ⟨rfl,rfl⟩) | (go_at_call 157;(with_reducible refine (za9 x.max x.first 1000 H2.out _).mono ?_);rintro e w' ⟨rfl,rfl⟩))
 go_ret
 exact ⟨rfl,zaa _ _⟩
theorem zhO (x:ByteArray × ByteArray) (w:World) (h:zl3 x.2):Calls v 165 #[E #[g x.1,g x.2]] w (zaU 0 w):=by
 obtain ⟨h1,h2⟩:=h;have hb:=zaa w (r #[g x.1,g x.2] 148);have hm:x.2.size≤maxLen:=by unfold maxLen;omega
 have q1:(w.alloc (r #[g x.1,g x.2] 148)).cell? ⟨w.heap.size,1,D⟩=some (g x.2):=by simp
 have H2:=Hd h2;have e2:decide ((120:Int)<(x.2.size:Int))=false:=by simp;omega
 clear h2;go_enter Tryz.func165,Tryz.ntmps165;go_wp2;generalize w.alloc (r #[g x.1,g x.2] 148)=W at *
 go_loop [12] (fun i=>∃ k:Nat,k≤x.2.size∧i = z u k) (fun i=>x.2.size-(intOf i).toNat)
 case atStart=>exact ⟨0,I _,rfl⟩
 case round =>
  obtain ⟨k,hk,rfl⟩:=hrel
  by_cases hlt:k<x.2.size
  · obtain ⟨a1,a2,a3⟩:=H2.out k x.2[k] (by rw [Array.getElem?_eq_getElem (by simpa using hlt)];rfl)
    have b1:decide ((x.2[k].toNat:Int)<32)=false:=by simp;omega
    have b2:decide ((126:Int)<(x.2[k].toNat:Int))=false:=by simp;omega
    have b3:((x.2[k].toNat:Int) == 34)=false:=by rw [beq_eq_false_iff_ne];omega
    clear a1 a2 a3
    go_wp2
    all_goals first
     | (go_round
        case rel=>exact ⟨k+1,by omega,by go_num⟩
        case measure=>simp [intOf];omega)
     | (exfalso;omega)
     | (exfalso;simp at *;omega)
  · go_wp2
    go_ret
    exact ⟨rfl,hb⟩
theorem zhU (x:SubM) (w:World) (h1:NameOk x.loc) (h2:NameOk x.device) (h3:NameOk x.set) (h4:NameOk x.signal):Calls v 172 #[E #[g x.loc,g x.device,g x.set,g x.signal]] w (zaG true w):=by
 have hb:=zaa w (r #[g x.loc,g x.device,g x.set,g x.signal] 62);have hm:∀ s:ByteArray,NameOk s→s.size≤maxLen:=fun s h=>by have:=h.len;unfold maxLen;omega
 have C:∀ W:World,Calls v 167 #[f (some ⟨W.heap.size,0,D⟩) 4 4] (W.alloc (r #[g x.loc,g x.device,g x.set,g x.signal] 9)) (zaG true (W.alloc (r #[g x.loc,g x.device,g x.set,g x.signal] 9))):=by
  intro W;refine zif (some ⟨W.heap.size,0,D⟩) 4 _ [x.loc,x.device,x.set,x.signal] _ (H _) ?_ (by simp) ?_
  · refine Rws.of_ownStr (base:=W.heap.size) (zcO (w:=W) (t := 9) [g x.loc,g x.device,g x.set,g x.signal] (by unfold maxLen;simp)) ?_
    intro s hs
    simp only [List.mem_cons,List.not_mem_nil,or_false] at hs
    rcases hs with rfl | rfl | rfl | rfl
    · exact hm _ h1
    · exact hm _ h2
    · exact hm _ h3
    · exact hm _ h4
  · intro k s hs
    rcases k with _ | _ | _ | _ | k
    · cases hs;exact h1
    · cases hs;exact h2
    · cases hs;exact h3
    · cases hs;exact h4
    · simp at hs
 have C1:=C (w.alloc (r #[g x.loc,g x.device,g x.set,g x.signal] 62));rw [show (w.alloc (r #[g x.loc,g x.device,g x.set,g x.signal] 62)).heap.size=w.heap.size+1 by simp] at C1;have HC:=Hd C1;clear C C1 hm h1 h2 h3 h4;go_enter Tryz.func172,Tryz.ntmps172;go_wp2_with fail
 (with_reducible refine HC.out.mono ?_)
 rintro e w2 ⟨rfl,hb2⟩
 go_wp2;go_ret
 exact ⟨rfl,Below.then hb (Below.then (zaa _ _) hb2)⟩
end Go.Proofs.YtjkimieapfbhbaaGreatDoor
