/-
  scan.execute: one scan on a memory.
-/
import Derived.Test.YtcikenlflcofbaaGreatDoorKExcP
import Derived.Test.YtcikenlflcofbaaGreatDoorVfKi
import Derived.Test.YtcikenlflcofbaaGreatDoorP1
set_option maxRecDepth 100000
set_option maxHeartbeats 8000000
namespace Go.Proofs.YtcikenlflcofbaaGreatDoor
open Go.RowKit
theorem ziY {w:World} {base:Nat} {e:TypeId} {size n c:Nat} {A:Option Addr} {xs:List Value} (h:w.ownsRow base e size (.slice A n c) n xs):n≤c∧c≤maxLen:=by
  obtain ⟨_,_,q,l,m⟩:=zag h;injection q with _ _ q
  subst q;exact ⟨l,m⟩
structure VaW (w:World) (b0 g cv n:Nat) (vals:List Int):Prop where
  row:w.ownsRow b0 3 1 (.slice (some ⟨g,0,none⟩) n cv) n (vals.map (Value.int .i64))
  len:vals.length=n
theorem VaW.keep {w w':World} {b0 g cv n:Nat} {vals:List Int} (h:VaW w b0 g cv n vals) (hk:w'.heap[g]? = w.heap[g]?):VaW w' b0 g cv n vals:=
  ⟨zam h.row (fun q e _=>by injection e with e;subst e;exact hk),h.len⟩
theorem VaW.lt {w:World} {b0 g cv n:Nat} {vals:List Int} (h:VaW w b0 g cv n vals):g<w.heap.size:=(h.row.lt g rfl).2
theorem VaW.get {w:World} {b0 g cv n:Nat} {vals:List Int} (h:VaW w b0 g cv n vals) {k:Nat} {x:Int} (hk:vals[k]? = some x):w.cell? ⟨g,k,none⟩=some (.int .i64 x)∧w.frozen? ⟨g,k,none⟩=false:=by
  have hl:=(List.getElem?_eq_some_iff.1 hk).1;have hn:=h.len;refine ⟨(h.row.cellAt k (by omega)).trans (by rw [List.getElem?_map,hk];rfl),h.row.frozenAt _⟩
theorem VaW.set {w:World} {b0 g cv n:Nat} {vals:List Int} (h:VaW w b0 g cv n vals) (k:Nat) (x:Int):VaW (w.setCell ⟨g,k,none⟩ (.int .i64 x)) b0 g cv n (vals.set k x):=by
  have:=(h.row.stored k (.int .i64 x)).1;refine ⟨?_,by rw [List.length_set];exact h.len⟩
  rw [List.map_set];exact this
structure MemW (w:World) (b0 gv cv gc cc:Nat) (p:Pg) (vals:List Int) (cs:List Cs):Prop where
  va:VaW w b0 gv cv p.rls.length vals
  ce:CeW w b0 gc cc p.cells.length cs
  ne:gv≠gc
def RetExe (b0 gv cv gc cc:Nat) (p:Pg) (m:Mm) (w:World) (e:Ending) (w':World):Prop:=
  e = .returned (.tuple #[])∧MemW w' b0 gv cv gc cc p m.vals m.cells∧KB (fun b=>b=gv∨b=gc) w w'
theorem MemW.keep {w w':World} {b0 gv cv gc cc:Nat} {p:Pg} {vals:List Int} {cs:List Cs} (h:MemW w b0 gv cv gc cc p vals cs) (h1:w'.heap[gv]? = w.heap[gv]?) (h2:w'.heap[gc]? = w.heap[gc]?):MemW w' b0 gv cv gc cc p vals cs:=⟨h.va.keep h1,h.ce.keep h2,h.ne⟩
theorem zdN {W3 W W':World} {mb base b0 gv cv gc cc:Nat} {p:Pg} {vals:List Int} {cs:List Cs} {st:List Int} {sv:Value} (hma:MaW W mb base st sv) (hk:KB (MaS mb sv) W W') (hgv:gv<base) (hgc:gc<base) (hmm:MemW W b0 gv cv gc cc p vals cs) (hkb:KB (fun b=>b=gv∨b=gc∨base≤b) W3 W) :
    MemW W' b0 gv cv gc cc p vals cs∧KB (fun b=>b=gv∨b=gc∨base≤b) W3 W':=by
  have hge:∀ b,MaS mb sv b→base≤b:=fun b q=>by
    rcases q with q | q
    · rw [q];exact hma.lo
    · exact (hma.st.lt b q).1
  exact ⟨hmm.keep (hk.block gv hmm.va.lt (fun q=>by have:=hge _ q;omega)) (hk.block gc hmm.ce.lt (fun q=>by have:=hge _ q;omega)),hkb.trans (hk.mono fun b _ q => .inr (.inr (hge b q)))⟩
def ExL (W2:World) (mb base b0 gv cv gc cc:Nat) (p:Pg) (inp:List Int) (m:Int) (F:Xs) (g:Nat) (v15:Value) (wr:World):Prop:=
  ∃ (k:Nat) (v:Vs) (s:Xs) (sv:Value) (most:Int),k≤p.code.length∧p.code.length-k<g∧v15 = .int .i64 (k:Int)∧runG p (p.code.drop k) k v most=(0,m,0)∧StOk p v s∧v.st.length≤24 ∧
    (p.code.drop k).foldl (exP p inp) s=F∧MaW wr mb base s.st sv∧MemW wr b0 gv cv gc cc p s.vals s.cells∧KB (fun b=>b=gv∨b=gc∨base≤b) W2 wr
theorem zjX {w:World} {p:Pg} {l:Pl} {b0 gv cv gc cc:Nat} {vals:List Int} {cs:List Cs} {Ai:Option Addr} {ci:Nat} {inp:List Int} (hpg:PgI w (fun b=>b<w.heap.size∧b≠gv∧b≠gc) p l) (hm:MemW w b0 gv cv gc cc p vals cs)
    (hi:Rw IaC 1 w (fun b=>b<w.heap.size∧b≠gv∧b≠gc) Ai inp.length inp) (hv:(verP p).2.2=0) (hio:zeO p inp) (hso:StOk p ⟨[],0,0⟩ ⟨[],vals,cs⟩) :
    Calls Tryz.prog 31 #[pgV p l,.agg #[.slice (some ⟨gv,0,none⟩) p.rls.length cv,.slice (some ⟨gc,0,none⟩) p.cells.length cc],.slice Ai inp.length ci] w (RetExe b0 gv cv gc cc p (zem p ⟨vals,cs⟩ inp) w):=by
  obtain ⟨B1,k1,B2,k2,B3,k3,B4,k4⟩:=l;have HPG:=Hi hpg;have m1:=hpg.m1;have m2:=hpg.m2;have m3:=hpg.m3;have m4:=hpg.m4;have h1:=hpg.h1;have h2:=hpg.h2;have h3:=hpg.h3;have h4:=hpg.h4;dsimp only at m1 m2 m3 m4 h1 h2 h3 h4;unfold maxLen at m1 m2 m3 m4;have hgv:=hm.va.lt;have hgc:=hm.ce.lt;have hne:=hm.ne;obtain ⟨lv,mv⟩:=ziY hm.va.row;obtain ⟨lc,mc⟩:=ziY hm.ce.row;unfold maxLen at mv mc;obtain ⟨F,hF⟩:∃ F,p.code.foldl (exP p inp) ⟨[],vals,cs⟩=F:=⟨_,rfl⟩;have hS:zem p ⟨vals,cs⟩ inp=⟨F.vals,F.cells⟩:=by unfold zem;rw [hF]
  rw [hS]
  have hrun:∃ m,runG p p.code 0 ⟨[],0,0⟩ 0=(0,m,0):=by
    unfold verP at hv
    by_cases hh:hdrP p=0
    · rw [if_neg (by simpa using hh)] at hv
      obtain ⟨a,b,c,hq⟩:∃ a b c,runG p p.code 0 ⟨[],0,0⟩ 0=(a,b,c):=⟨_,_,_,rfl⟩
      rw [hq] at hv
      dsimp only at hv
      subst hv
      exact ⟨b,zfg hq⟩
    · rw [if_pos hh] at hv
      exact absurd hv hh
  obtain ⟨m,hrun⟩:=hrun;have hb1:=zaa w (Obj.cells (pgC p ⟨B1,k1,B2,k2,B3,k3,B4,k4⟩) 35);have hb2:=zaa (w.alloc (Obj.cells (pgC p ⟨B1,k1,B2,k2,B3,k3,B4,k4⟩) 35)) (Obj.cells #[.slice (some ⟨gv,0,none⟩) p.rls.length cv,.slice (some ⟨gc,0,none⟩) p.cells.length cc] 53);have HB1:=Hi hb1;have HB2:=Hi (zac hb1 hb2 hb1.size);have hx1:=(hb2.block w.heap.size (by rw [World.size_alloc];omega)).trans (heap_alloc_new w (Obj.cells (pgC p ⟨B1,k1,B2,k2,B3,k3,B4,k4⟩) 35));have hx2:=heap_alloc_new (w.alloc (Obj.cells (pgC p ⟨B1,k1,B2,k2,B3,k3,B4,k4⟩) 35)) (Obj.cells #[.slice (some ⟨gv,0,none⟩) p.rls.length cv,.slice (some ⟨gc,0,none⟩) p.cells.length cc] 53);rw [World.size_alloc] at hx2;have HX1:=Hi hx1;have HX2:=Hi hx2;obtain ⟨i0,hi0,hz0,hz1,hz2⟩:=info_parts zdD;have HM:=Hi hm;have HI:=Hi hi;have HRUN:=Hi hrun;have HIO:=Hi hio;have HSO:=Hi hso;have HF:=Hi hF;clear hb1 hb2 hx1 hx2 hm hi hrun hio hso hF hpg hv hS;go_enter Tryz.func31,Tryz.ntmps31;go_upto_region 1 with fail
  have hs2:((w.alloc (Obj.cells (pgC p ⟨B1,k1,B2,k2,B3,k3,B4,k4⟩) 35)).alloc (Obj.cells #[.slice (some ⟨gv,0,none⟩) p.rls.length cv,.slice (some ⟨gc,0,none⟩) p.cells.length cc] 53)).heap.size=w.heap.size+2:=by simp only [World.size_alloc]
  generalize (w.alloc (Obj.cells (pgC p ⟨B1,k1,B2,k2,B3,k3,B4,k4⟩) 35)).alloc (Obj.cells #[.slice (some ⟨gv,0,none⟩) p.rls.length cv,.slice (some ⟨gc,0,none⟩) p.cells.length cc] 53)=W1 at *;have HS2:=Hi hs2;clear hs2;go_upto_region 2 with (at_make;refine wpList_make_own _ rfl _ _ 38 rfl W1.heap.size 3 i0 _ 1 Tryz.underlying38 hi0 hz0 hz1 .i64 .i64 _ 24 rfl rfl rfl (by rw [hz2];decide) (by decide) (Nat.le_refl _) ?_;intro w2 hown2 hg2;have HO2:=Hi hown2;have HG2:=Hi hg2;clear hown2 hg2)
  have hb2:Below W1.heap.size W1 w2:=(Below.refl _ _).grown HG2.out (Nat.le_refl _) (fun k hk=>by cases hk);have hown2:=HO2.out;have hl2:=(hown2.lt W1.heap.size rfl).2;have hb3:Below W1.heap.size W1 (w2.alloc (Obj.cells #[.slice (some ⟨W1.heap.size,0,none⟩) 0 24] 109)):=hb2.alloc hb2.size _
  have hma:MaW (w2.alloc (Obj.cells #[.slice (some ⟨W1.heap.size,0,none⟩) 0 24] 109)) w2.heap.size W1.heap.size [] (.slice (some ⟨W1.heap.size,0,none⟩) 0 24):=
    ⟨heap_alloc_new w2 _,by simpa using hown2.alloc _,fun q=>by
      have q':some W1.heap.size=some w2.heap.size:=q;injection q' with q'
      omega,by omega⟩
  have hs3:=World.size_alloc w2 (Obj.cells #[.slice (some ⟨W1.heap.size,0,none⟩) 0 24] 109);clear hown2 hb2 HO2 HG2;go_upto_region 2 with fail
  generalize w2.alloc (Obj.cells #[.slice (some ⟨W1.heap.size,0,none⟩) 0 24] 109)=W3 at *;have hbw:w.heap.size<W1.heap.size:=by have:=HS2.out;omega
  have hbw2:w.heap.size+1<W1.heap.size:=by have:=HS2.out;omega
  have HMA:=Hi hma;have hb13:=HB2.out.trans (hb3.mono (by omega));have HB13:=Hi hb13;have HX13:=Hi ((hb3.block w.heap.size hbw).trans HX1.out);have HX23:=Hi ((hb3.block (w.heap.size+1) hbw2).trans HX2.out);have hx13:=HX13.out;have q3:W3.cell? ⟨w.heap.size,3,none⟩=some (.slice B4 p.code.length k4):=by simp [World.cell?,hx13]
  have HMM:=Hi (MemW.mk (HM.out.va.keep (w':=W3) (hb13.block gv hgv)) (HM.out.ce.keep (w':=W3) (hb13.block gc hgc)) HM.out.ne);have HBX:=Hi (fun (W:World) (h:KB (fun b=>b=gv∨b=gc∨W1.heap.size≤b) W3 W)=>And.intro ((h.block w.heap.size (by omega) (by omega)).trans HX13.out) ((h.block (w.heap.size+1) (by omega) (by omega)).trans HX23.out));have HKO:=Hi (fun (W:World) (h:KB (fun b=>b=gv∨b=gc∨W1.heap.size≤b) W3 W)=>show KeepOn (fun b=>b<w.heap.size∧b≠gv∧b≠gc) w W from fun b hb=>(h.block b (by omega) (by omega)).trans (HB13.out.block b hb.1));have hw3s:W1.heap.size<W3.heap.size:=by omega
  have hmbl:w2.heap.size<W3.heap.size:=by omega
  have hmbg:W1.heap.size<w2.heap.size:=hl2;clear hma hb13 hb3 hx13 hs3 hl2;go_wp2;clear q3;go_loopg [15] (p.code.length+1) (fun g v15 wr=>ExL W3 w2.heap.size W1.heap.size b0 gv cv gc cc p inp m F g v15 wr)
  case atStart=>exact ⟨0,⟨[],0,0⟩,⟨[],vals,cs⟩,_,0,Nat.zero_le _,by omega,rfl,by rw [List.drop_zero];exact HRUN.out,HSO.out,by decide,by rw [List.drop_zero];exact HF.out,HMA.out,HMM.out,KB.refl _ _⟩
  case round =>
    obtain ⟨k,v,s,sv,most,hk,hgk,rfl,hru,hst,h24,hfo,hma,hmm,hkb⟩:=hrel;have hsz:=hkb.size
    by_cases hlt:k<p.code.length
    case neg =>
      obtain rfl:k=p.code.length:=by omega
      rw [List.drop_length] at hfo;obtain rfl:s=F:=hfo;have HME:=Hi hmm;have HKE:=Hi (show KB (fun b=>b=gv∨b=gc) w wr from ⟨hkb.os.trans HB13.out.os,hkb.tape.trans HB13.out.tape,hkb.output.trans HB13.out.output,Nat.le_trans HB13.out.size hkb.size,fun b hb hn=>(hkb.block b (by omega) (by omega)).trans (HB13.out.block b hb)⟩);clear hru hst hma hmm hkb hlt;go_wp2;go_end0
      exact ⟨rfl,HME.out,HKE.out⟩
    obtain ⟨b,o,x,hA,hSb,hx,y0,y1⟩:=inAt (HPG.out.r4.mono InC.mono (fun _ q=>q) (HKO.out wr hkb)) hlt;have hA':B4=some ⟨b,o,none⟩:=hA;subst hA';obtain ⟨op,a⟩:=x;dsimp only at y0 y1
    have hget:p.code[k]=⟨op,a⟩:=by
      rw [List.getElem?_eq_getElem hlt] at hx;injection hx
    rw [List.drop_eq_getElem_cons hlt,hget] at hru hfo;rw [List.foldl_cons] at hfo;obtain ⟨v',hst',hru'⟩:=zfe hru;have hI:=ziI hst' hst;have hso':=ex_ok HIO.out hst' hst;have h24':=zkB hst' h24;have hsl:s.st.length≤24:=by rw [hst.ty.1];exact h24
    have hbk:b<wr.heap.size:=by have:=hSb.1;omega
    have hbx:=zaa wr (Obj.cells #[.int .i64 op,.int .i64 a] 76);have HMA1:=Hi (hma.below hbx);have HMM1:=Hi (hmm.keep (hbx.block gv hmm.va.lt) (hbx.block gc hmm.ce.lt));have HKB1:=Hi (hkb.trans (KB.of_below hbx));obtain ⟨hx1,hx2⟩:=HBX.out wr hkb
    have HNX:=Hi (fun (W:World) (sv':Value) (h1:MaW W w2.heap.size W1.heap.size (exP p inp s ⟨op,a⟩).st sv') (h2:MemW W b0 gv cv gc cc p (exP p inp s ⟨op,a⟩).vals (exP p inp s ⟨op,a⟩).cells) (h3:KB (fun b=>b=gv∨b=gc∨W1.heap.size≤b) W3 W) =>
      show ExL W3 w2.heap.size W1.heap.size b0 gv cv gc cc p inp m F (p.code.length-k) (.int .i64 ((k+1:Nat):Int)) W from ⟨k+1,v',_,sv',_,by omega,by omega,rfl,by rw [Int.natCast_add];exact hru',hso',h24',hfo,h1,h2,h3⟩)
    have HST:=Hi (And.intro hst' hst);have HII:=Hi hI;have hnl:w.heap.size<wr.heap.size:=by omega
    have hnl2:w.heap.size+1<wr.heap.size:=by omega
    have hgvb:gv<W1.heap.size:=by omega
    have hgcb:gc<W1.heap.size:=by omega
    rcases zka hI.opn with h12 | rfl | rfl | rfl | h17 | h4
    · have hex:=ex_lit p inp s (c:=⟨op,a⟩) h12
      have HEX:=Hi hex
      have HPU:=Hi (zaY HMA1.out a (by omega))
      clear hru hfo hst hma hmm hkb hx hget hst' hru' hI hso' h24' hbx hx1 hx2 hex hSb
      rcases h12 with rfl | rfl
      all_goals
        go_wp2_with fail
        refine HPU.out.mono ?_
        rintro e w5 ⟨rfl,sv5,hm5,hk5,hf5⟩
        have HAF:=Hi (zdN HMA1.out hk5 hgvb hgcb HMM1.out HKB1.out)
        have HM5:=Hi hm5
        clear hm5 hk5 hf5
        go_wp2
        go_roundg (p.code.length-k)
        case measure=>omega
        case rel=>exact HNX.out _ _ (by rw [HEX.out];exact HM5.out) (by rw [HEX.out];exact HAF.out.1) HAF.out.2
    · obtain ⟨j,rfl⟩:∃ j:Nat,a=(j:Int):=⟨a.toNat,by have:=(hI.inp rfl).1;dsimp only at this;omega⟩
      have hj:j<inp.length:=by have:=(hI.inp rfl).2;rw [HIO.out.1];dsimp only at this;omega
      obtain ⟨b',o',z,hA',hSb',hz,u0⟩:=iaAt (HI.out.mono IaC.mono (fun _ q=>q) (HKO.out wr hkb)) hj
      subst hA'
      have hex:=ex_inp p inp s (c:=⟨30,(j:Int)⟩) rfl
      have hgz:inp.getD (Int.toNat (j:Int)) 0=z:=by rw [List.getD_eq_getElem?_getD,Int.toNat_natCast,hz];rfl
      dsimp only at hex
      rw [hgz] at hex
      have HEX:=Hi hex
      have HPU:=Hi (zaY HMA1.out (limP z) (by omega))
      have HLM:=Hi (fun W=>zd7 z W)
      have hbk':b'<wr.heap.size:=by have:=hSb'.1;omega
      clear hru hfo hst hma hmm hkb hx hget hst' hru' hI hso' h24' hbx hx1 hx2 hex hSb hSb' hz hgz
      go_wp2_with fail
      refine (HLM.out _).mono ?_
      rintro e w4 ⟨rfl,rfl⟩
      go_wp2_with fail
      refine HPU.out.mono ?_
      rintro e w5 ⟨rfl,sv5,hm5,hk5,hf5⟩
      have HAF:=Hi (zdN HMA1.out hk5 hgvb hgcb HMM1.out HKB1.out)
      have HM5:=Hi hm5
      clear hm5 hk5 hf5
      go_wp2
      go_roundg (p.code.length-k)
      case measure=>omega
      case rel=>exact HNX.out _ _ (by rw [HEX.out];exact HM5.out) (by rw [HEX.out];exact HAF.out.1) HAF.out.2
    · obtain ⟨j,rfl⟩:∃ j:Nat,a=(j:Int):=⟨a.toNat,by have:=(hI.rul (.inl rfl)).1;dsimp only at this;omega⟩
      have hj:j<p.rls.length:=by have:=(hI.rul (.inl rfl)).2;dsimp only at this;omega
      have hjv:j<s.vals.length:=by rw [hst.vl];exact hj
      obtain ⟨u0,-⟩:=hmm.va.get (List.getElem?_eq_getElem hjv)
      obtain ⟨z,hz⟩:∃ z,s.vals[j]=z:=⟨_,rfl⟩
      rw [hz] at u0
      have hex:=ex_rul p inp s (c:=⟨31,(j:Int)⟩) rfl
      have hgz:s.vals.getD (Int.toNat (j:Int)) 0=z:=by rw [List.getD_eq_getElem?_getD,Int.toNat_natCast,List.getElem?_eq_getElem hjv,hz];rfl
      dsimp only at hex
      rw [hgz] at hex
      have HEX:=Hi hex
      have HPU:=Hi (zaY HMA1.out z (by omega))
      have hgl:=hmm.va.lt
      have q0:wr.cell? ⟨w.heap.size+1,0,none⟩=some (.slice (some ⟨gv,0,none⟩) p.rls.length cv):=by simp [World.cell?,hx2]
      clear hru hfo hst hma hmm hkb hx hget hst' hru' hI hso' h24' hbx hx1 hx2 hex hSb hz hgz
      go_wp2_with fail
      refine HPU.out.mono ?_
      rintro e w5 ⟨rfl,sv5,hm5,hk5,hf5⟩
      have HAF:=Hi (zdN HMA1.out hk5 hgvb hgcb HMM1.out HKB1.out)
      have HM5:=Hi hm5
      clear hm5 hk5 hf5
      go_wp2
      go_roundg (p.code.length-k)
      case measure=>omega
      case rel=>exact HNX.out _ _ (by rw [HEX.out];exact HM5.out) (by rw [HEX.out];exact HAF.out.1) HAF.out.2
    · obtain ⟨j,rfl⟩:∃ j:Nat,a=(j:Int):=⟨a.toNat,by have:=(hI.rul (.inr rfl)).1;dsimp only at this;omega⟩
      have hj:j<p.rls.length:=by have:=(hI.rul (.inr rfl)).2;dsimp only at this;omega
      have hjv:j<s.vals.length:=by rw [hst.vl];exact hj
      obtain ⟨x,hax⟩:=zcs (l:=zbc s ⟨32,(j:Int)⟩) (by rw [hI.alen];rfl)
      have hex:=ex_sto p inp s (c:=⟨32,(j:Int)⟩) rfl
      dsimp only at hex
      rw [hax,Int.toNat_natCast] at hex
      have HEX:=Hi hex
      have hmz:MaW (wr.alloc (Obj.cells #[.int .i64 32,.int .i64 (j:Int)] 76)) w2.heap.size W1.heap.size (zbG s ⟨32,(j:Int)⟩++[x]) sv:=by
        rw [← hax]
        unfold zbG zbc
        rw [List.take_append_drop]
        exact HMA1.out
      have hrl:(zbG s ⟨32,(j:Int)⟩).length≤100000:=by unfold zbG;rw [List.length_take];omega
      have HPO:=Hi (zaF hmz.drew hrl)
      have hmlt:=hma.lt
      have hrow:=hma.st.lt
      have q0:wr.cell? ⟨w.heap.size+1,0,none⟩=some (.slice (some ⟨gv,0,none⟩) p.rls.length cv):=by simp [World.cell?,hx2]
      have HBF:=Hi (fun (W':World) (h:KB (MaS w2.heap.size sv) (wr.alloc (Obj.cells #[.int .i64 32,.int .i64 (j:Int)] 76)).drew W')=>by
        have e1:=(h.block wr.heap.size (show wr.heap.size<(wr.alloc _).heap.size by rw [World.size_alloc];omega) (fun q=>by
          rcases q with q | q
          · omega
          · have:=(hrow _ q).2;omega)).trans (heap_alloc_new wr (Obj.cells #[.int .i64 32,.int .i64 (j:Int)] 76))
        have hnb:∀ z,z<W1.heap.size→¬ MaS w2.heap.size sv z:=fun z hz q=>by
          rcases q with q | q
          · omega
          · have:=(hrow _ q).1;omega
        have e2:=((h.block (w.heap.size+1) (show _<(wr.alloc _).heap.size by rw [World.size_alloc];omega) (hnb _ hbw2)).trans (Lib.alloc_old wr _ _ hnl2)).trans hx2
        have hmw:=hmm.keep ((h.block gv (show _<(wr.alloc _).heap.size by rw [World.size_alloc];have:=hmm.va.lt;omega) (hnb _ hgvb)).trans (Lib.alloc_old wr _ _ hmm.va.lt)) ((h.block gc (show _<(wr.alloc _).heap.size by rw [World.size_alloc];have:=hmm.ce.lt;omega) (hnb _ hgcb)).trans (Lib.alloc_old wr _ _ hmm.ce.lt))
        obtain ⟨u0,f0⟩:=hmw.va.get (List.getElem?_eq_getElem hjv)
        exact (⟨by simp [World.cell?,e1],by simp [World.cell?,e2],u0,f0,hmw.va.lt,hmw⟩:W'.cell? ⟨wr.heap.size,1,none⟩=some (.int .i64 (j:Int))∧W'.cell? ⟨w.heap.size+1,0,none⟩=some (.slice (some ⟨gv,0,none⟩) p.rls.length cv)∧W'.cell? ⟨gv,j,none⟩=some (.int .i64 (s.vals[j]))∧W'.frozen? ⟨gv,j,none⟩=false∧gv<W'.heap.size∧MemW W' b0 gv cv gc cc p s.vals s.cells))
      clear hru hfo hst hma hmm hkb hx hget hst' hru' hI hso' h24' hbx hx1 hx2 hex hSb hmz hrl hax hrow
      go_upto_region 13 with fail
      go_region_law ((go_simp;go_at_call 56;refine HPO.out.mono ?_;rintro e w5 ⟨rfl,sv5,hm5,hk5,ho5,hz5⟩;obtain ⟨v1,v2,v3,v4,v5,hmw5⟩:=HBF.out w5 hk5;have HM5:=Hi hm5;have HK5:=Hi hk5;have HW5:=Hi hmw5;have HO5:=Hi ho5;clear hm5 hk5 hmw5 ho5 hz5))
      all_goals
        have HFIN:Hid (MaW (w5.setCell ⟨gv,j,none⟩ (.int .i64 x)) w2.heap.size W1.heap.size (zbG s ⟨32,(j:Int)⟩) sv5∧MemW (w5.setCell ⟨gv,j,none⟩ (.int .i64 x)) b0 gv cv gc cc p (s.vals.set j x) s.cells∧KB (fun b=>b=gv∨b=gc∨W1.heap.size≤b) W3 (w5.setCell ⟨gv,j,none⟩ (.int .i64 x))):=by
          refine Hi ⟨HM5.out.keep (fun b hb=>Below.heap_setCell _ _ _ b (fun q => ?_)),⟨HW5.out.va.set j x,HW5.out.ce.keep (Below.heap_setCell _ _ _ _ (fun q=>HW5.out.ne (by exact q.symm))),HW5.out.ne⟩,?_⟩
          · have q':b=gv:=q
            rcases hb with e1 | e1
            · omega
            · have:=(HM5.out.st.lt b e1).1;omega
          · refine ((HKB1.out.trans (zdr _ _)).trans (HK5.out.mono fun b _ q => ?_)).trans (KB.of_grown (zaf _ gv j _) (fun b _ q=>by injection q with q;exact .inl q.symm))
            rcases q with q | q
            · exact .inr (.inr (by omega))
            · exact .inr (.inr (HMA1.out.st.lt b q).1)
        go_wp2
        go_roundg (p.code.length-k)
        case measure=>omega
        case rel=>exact HNX.out _ _ (by rw [HEX.out];exact HFIN.out.1) (by rw [HEX.out];exact HFIN.out.2.1) HFIN.out.2.2
    · obtain ⟨h17a,h17b⟩:=h17
      dsimp only at h17a h17b
      obtain ⟨u,lc,t,hau,hl,ht,hlo,hn0,hn5,hps⟩:=hI.cel (zc2.2 ⟨h17a,h17b⟩)
      dsimp only at hau hlo
      subst hau
      have hul:=(List.getElem?_eq_some_iff.1 hl).1
      have huc:=(List.getElem?_eq_some_iff.1 ht).1
      have hex:=ex_cel p inp s (c:=⟨op,(u:Int)⟩) ⟨h17a,h17b⟩ rfl hl ht
      dsimp only at hex
      have HEX:=Hi hex
      obtain ⟨b',o',l',hA',hSb',hl',z0,z1⟩:=ceAt (HPG.out.r3.mono CeC.mono (fun _ q=>q) (HKO.out wr hkb)) hul
      rw [hl] at hl'
      cases hl'
      have hA2:B3=some ⟨b',o',none⟩:=hA'
      subst hA2
      obtain ⟨lop,ln⟩:=lc
      dsimp only at hlo hn0 hn5 z0 z1
      subst hlo
      have hbk':b'<wr.heap.size:=by have:=hSb'.1;omega
      have hmz:MaW (wr.alloc (Obj.cells #[.int .i64 lop,.int .i64 (u:Int)] 76)) w2.heap.size W1.heap.size (zbG s ⟨lop,(u:Int)⟩++zbc s ⟨lop,(u:Int)⟩) sv:=by
        unfold zbG zbc
        rw [List.take_append_drop]
        exact HMA1.out
      have hrl:(zbG s ⟨lop,(u:Int)⟩).length≤1000:=by unfold zbG;rw [List.length_take];omega
      have hcap:0≤t.n∧t.n≤100000:=by
        have h1:=zbK.1 hps
        refine ⟨h1.2.1,?_⟩
        have h2:=h1.2.2
        unfold capP at h2
        dsimp only at h2
        split at h2
        · omega
        split at h2
        · omega
        split at h2 <;> omega
      have HCE:=Hi (zjQ (w:=(wr.alloc (Obj.cells #[.int .i64 lop,.int .i64 (u:Int)] 76)).drew) (n:=ln) ⟨h17a,h17b⟩ (by rw [hI.alen];have:=hI.opn;dsimp only at this ⊢;omega) ⟨hn0,by omega⟩ hmz.drew hrl (HMM1.out.ce.keep (w':=(wr.alloc (Obj.cells #[.int .i64 lop,.int .i64 (u:Int)] 76)).drew) rfl) ht hcap hgcb)
      have q2:wr.cell? ⟨w.heap.size,2,none⟩=some (.slice (some ⟨b',o',none⟩) p.cells.length k3):=by simp [World.cell?,hx1]
      have r1:wr.cell? ⟨w.heap.size+1,1,none⟩=some (.slice (some ⟨gc,0,none⟩) p.cells.length cc):=by simp [World.cell?,hx2]
      have hui:(u:Int)<(p.cells.length:Int):=by omega
      have b1:(lop == 1)=false:=by simp;omega
      have b2:(lop == 2)=false:=by simp;omega
      have b30:(lop == 30)=false:=by simp;omega
      have b31:(lop == 31)=false:=by simp;omega
      have b32:(lop == 32)=false:=by simp;omega
      clear hru hfo hst hma hmm hkb hx hget hst' hru' hI hso' h24' hbx hx1 hx2 hex hSb hSb' hmz hrl hcap hps hl ht huc
      go_upto_region 15 with fail
      go_region_law ((go_simp;go_at_call 57;refine HCE.out.mono ?_;rintro e w5 ⟨rfl,sv5,hm5,hc5,hk5,hf5⟩;have HM5:=Hi hm5;have HK5:=Hi hk5;have HC5:=Hi hc5;clear hm5 hk5 hc5 hf5))
      all_goals
        have HFIN:Hid (MemW w5 b0 gv cv gc cc p (exP p inp s ⟨lop,(u:Int)⟩).vals (exP p inp s ⟨lop,(u:Int)⟩).cells∧KB (fun b=>b=gv∨b=gc∨W1.heap.size≤b) W3 w5):=by
          refine Hi ⟨?_,?_⟩
          · rw [HEX.out]
            refine ⟨HMM1.out.va.keep (HK5.out.block gv HMM1.out.va.lt (fun q => ?_)),HC5.out,HMM1.out.ne⟩
            rcases q with (q | q) | q
            · omega
            · have:=(HMA1.out.st.lt _ q).1;omega
            · exact HMM1.out.ne q
          · refine (HKB1.out.trans (zdr _ _)).trans (HK5.out.mono fun b _ q => ?_)
            rcases q with (q | q) | q
            · exact .inr (.inr (by omega))
            · exact .inr (.inr (HMA1.out.st.lt b q).1)
            · exact .inr (.inl q)
        go_wp2
        go_roundg (p.code.length-k)
        case measure=>omega
        case rel=>exact HNX.out _ _ (by rw [HEX.out];exact HM5.out) HFIN.out.1 HFIN.out.2
    · have hex:=ex_pla p inp s (c:=⟨op,a⟩) h4
      obtain ⟨ha1,ha2,ha3⟩:=zki hst' hst h4
      have HEX:=Hi hex
      have hmz:MaW (wr.alloc (Obj.cells #[.int .i64 op,.int .i64 a] 76)) w2.heap.size W1.heap.size (zbG s ⟨op,a⟩++zbc s ⟨op,a⟩) sv:=by
        unfold zbG zbc
        rw [List.take_append_drop]
        exact HMA1.out
      have hrl:(zbG s ⟨op,a⟩).length≤1000:=by unfold zbG;rw [List.length_take];omega
      have HOP:=Hi (zgy h4 ha1 ha2 ha3 hmz hrl)
      obtain ⟨h4a,h4b⟩:=h4
      dsimp only at h4a h4b
      have b1:(op == 1)=false:=by simp;omega
      have b2:(op == 2)=false:=by simp;omega
      have b30:(op == 30)=false:=by simp;omega
      have b31:(op == 31)=false:=by simp;omega
      have b32:(op == 32)=false:=by simp;omega
      have b17:decide ((17:Int)≤op)=false:=by simp;omega
      clear hru hfo hst hma hmm hkb hx hget hst' hru' hI hso' h24' hbx hx1 hx2 hex hSb ha1 ha2 ha3 hmz hrl
      go_wp2_with fail
      refine HOP.out.mono ?_
      rintro e w5 ⟨rfl,sv5,hm5,hk5,hf5⟩
      have HAF:=Hi (zdN HMA1.out hk5 hgvb hgcb HMM1.out HKB1.out)
      have HM5:=Hi hm5
      clear hm5 hk5 hf5
      go_wp2
      go_roundg (p.code.length-k)
      case measure=>omega
      case rel=>exact HNX.out _ _ (by rw [HEX.out];exact HM5.out) (by rw [HEX.out];exact HAF.out.1) HAF.out.2
end Go.Proofs.YtcikenlflcofbaaGreatDoor
namespace Go.Proofs.YtcikenlflcofbaaGreatDoor
theorem zbx {f:Nat} {t:List UInt8} {r:Ex × Int × Int} (h:zbw f t=some r):zaw t=r:=by
  have h1:=zeg (Nat.le_max_left f 1000) h;have h2:=zeg (Nat.le_max_right f 1000) (zdb t);rw [h1] at h2;injection h2 with h2
  exact h2.symm
theorem kW (s:List UInt8):(tkW s).1≠0:=by show (1:Int)≠0;decide
theorem za1 {s w:List UInt8} {ws:List (List UInt8)} (h:ws.contains s=false) (hw:w∈ws):(s == w)=false:=by
  cases hq:(s == w)
  · rfl
  · rw [eq_of_beq hq] at h
    rw [List.contains_iff_mem.2 hw] at h
    cases h
end Go.Proofs.YtcikenlflcofbaaGreatDoor
