/-
  The machine of scans: an operation with a cell.
-/
import Derived.Test.YtcikenlflcofbaaGreatDoorMacO
set_option maxRecDepth 100000
set_option maxHeartbeats 8000000
namespace Go.Proofs.YtcikenlflcofbaaGreatDoor
open Go.RowKit
def csL (c:Cs):List Value:=[.bool c.on,.int .i64 c.n]
theorem ziA (l:List Cs):(l.flatMap csL).length=l.length*2:=by
  induction l with
  | nil=>rfl
  | cons x l ih=>simp [csL] at ih ⊢;omega
theorem zgV:∀ (l:List Cs) (k:Nat) (c:Cs),l[k]? = some c→(l.flatMap csL)[k*2]? = some (.bool c.on)∧(l.flatMap csL)[k*2+1]? = some (.int .i64 c.n) ∧
    (∀ x,(l.flatMap csL).set (k*2) (.bool x)=(l.set k ⟨x,c.n⟩).flatMap csL)∧(∀ z,(l.flatMap csL).set (k*2+1) (.int .i64 z)=(l.set k ⟨c.on,z⟩).flatMap csL)
  | [],k,c,h=>by simp at h
  | y::l,0,c,h=>by
    simp at h
    subst h;exact ⟨rfl,rfl,fun x=>rfl,fun z=>rfl⟩
  | y::l,k+1,c,h=>by
    have h':l[k]? = some c:=by simpa using h
    obtain ⟨a1,a2,a3,a4⟩:=zgV l k c h';have e:(y::l).flatMap csL=[Value.bool y.on,.int .i64 y.n]++l.flatMap csL:=rfl;have e1:(k+1)*2=k*2+2:=by omega
    refine ⟨?_,?_,fun x => ?_,fun z => ?_⟩
    · rw [e,e1,List.getElem?_append_right (by simp)];simpa using a1
    · rw [e,e1,List.getElem?_append_right (by simp)];simpa using a2
    · rw [e,e1,List.set_append_right _ _ (by simp),List.set_cons_succ,List.flatMap_cons,← a3];rfl
    · rw [e,e1,List.set_append_right _ _ (by first | omega | (simp;done) | (simp;omega)),List.set_cons_succ,List.flatMap_cons,← a4]
      simp only [List.length_cons,List.length_nil]
      rw [show k*2+2+1-(0+1+1)=k*2+1 by omega]
      rfl
structure CeW (w:World) (b0 g cc N:Nat) (cs:List Cs):Prop where
  row:w.ownsRow b0 83 2 (.slice (some ⟨g,0,none⟩) N cc) N (cs.flatMap csL)
  len:cs.length=N
theorem CeW.keep {w w':World} {b0 g cc N:Nat} {cs:List Cs} (h:CeW w b0 g cc N cs) (hk:w'.heap[g]? = w.heap[g]?):CeW w' b0 g cc N cs:=
  ⟨zam h.row (fun q e _=>by injection e with e;subst e;exact hk),h.len⟩
theorem CeW.lt {w:World} {b0 g cc N:Nat} {cs:List Cs} (h:CeW w b0 g cc N cs):g<w.heap.size:=(h.row.lt g rfl).2
theorem CeW.get {w:World} {b0 g cc N:Nat} {cs:List Cs} (h:CeW w b0 g cc N cs) {k:Nat} {c:Cs} (hk:cs[k]? = some c) :
    w.cell? ⟨g,k*2,none⟩=some (.bool c.on)∧w.cell? ⟨g,k*2+1,none⟩=some (.int .i64 c.n)∧w.frozen? ⟨g,k*2,none⟩=false∧w.frozen? ⟨g,k*2+1,none⟩=false:=by
  have hl:=(List.getElem?_eq_some_iff.1 hk).1;have hn:=h.len;obtain ⟨a1,a2,-,-⟩:=zgV cs k c hk;exact ⟨(h.row.cellAt (k*2) (by omega)).trans a1,(h.row.cellAt (k*2+1) (by omega)).trans a2,h.row.frozenAt _,h.row.frozenAt _⟩
theorem CeW.setOn {w:World} {b0 g cc N:Nat} {cs:List Cs} (h:CeW w b0 g cc N cs) {k:Nat} {c:Cs} (hk:cs[k]? = some c) (x:Bool):CeW (w.setCell ⟨g,k*2,none⟩ (.bool x)) b0 g cc N (cs.set k ⟨x,c.n⟩):=by
  have:=(h.row.stored (k*2) (.bool x)).1;rw [(zgV cs k c hk).2.2.1 x] at this;exact ⟨this,by rw [List.length_set];exact h.len⟩
theorem CeW.setN {w:World} {b0 g cc N:Nat} {cs:List Cs} (h:CeW w b0 g cc N cs) {k:Nat} {c:Cs} (hk:cs[k]? = some c) (z:Int):CeW (w.setCell ⟨g,k*2+1,none⟩ (.int .i64 z)) b0 g cc N (cs.set k ⟨c.on,z⟩):=by
  have:=(h.row.stored (k*2+1) (.int .i64 z)).1;rw [(zgV cs k c hk).2.2.2 z] at this;exact ⟨this,by rw [List.length_set];exact h.len⟩
theorem zcl {cs:List Cs} {k:Nat} {c:Cs} (hk:cs[k]? = some c) (d:Cs):(cs.set k d)[k]? = some d:=List.getElem?_set_self (List.getElem?_eq_some_iff.1 hk).1
theorem set_set (cs:List Cs) (k:Nat) (c d:Cs):(cs.set k c).set k d=cs.set k d:=List.set_set ..
def CelS (mb g:Nat) (sv:Value) (b:Nat):Prop:=MaS mb sv b∨b=g
def RetCel (mb base:Nat) (st':List Int) (b0 g cc N:Nat) (cs':List Cs) (w:World) (sv:Value) (e:Ending) (w':World):Prop:=
  e = .returned (.tuple #[])∧∃ sv',MaW w' mb base st' sv'∧CeW w' b0 g cc N cs'∧KB (CelS mb g sv) w w'∧Fresh w sv sv'
theorem zkY (mb g:Nat) (sv:Value) (w:World) (i:Nat) (v:Value):KB (CelS mb g sv) w (w.setCell ⟨g,i,none⟩ v):=KB.of_grown (zaf w g i v) (fun b _ q=>by injection q with q;exact .inr q.symm)
theorem zlq {mb g:Nat} {sv s0:Value} {w w':World} (h:KB (MaS mb s0) w w') (ho:s0.ownBlock=sv.ownBlock):KB (CelS mb g sv) w w':=h.mono fun b _ q=>by
  rcases q with q | q
  · exact .inl (.inl q)
  · exact .inl (.inr (by rw [← ho];exact q))
theorem zdr (S:Nat→Prop) (w:World):KB S w w.drew:=KB.of_below (zad (Below.refl _ _))
structure CeP (w w0:World) (mb base g:Nat) (op n:Int) (st:List Int) (b0 cc N:Nat) (cs:List Cs) (sv s0:Value):Prop where
  ma:MaW w0 mb base st s0
  ce:CeW w0 b0 g cc N cs
  kb:KB (CelS mb g sv) w w0
  ob:s0.ownBlock=sv.ownBlock
  b0:w0.cell? ⟨w.heap.size,0,none⟩=some (.int .i64 op)
  b1:w0.cell? ⟨w.heap.size,1,none⟩=some (.int .i64 n)
  hg:g<w.heap.size∧g≠mb∧sv.ownBlock≠some g∧mb<w.heap.size
  bl:w.heap.size<w0.heap.size
theorem zeA {w w0:World} {mb base g:Nat} {op n x:Int} {st:List Int} {b0 cc N:Nat} {cs:List Cs} {sv s0:Value} (h:MaW w mb base (st++[x]) sv) (hc:CeW w b0 g cc N cs) (hg:g<base)
    (hm:MaW w0 mb base st s0) (hk:KB (MaS mb sv) (w.alloc (Obj.cells #[.int .i64 op,.int .i64 n] 89)) w0) (ho:s0.ownBlock=sv.ownBlock):CeP w w0 mb base g op n st b0 cc N cs sv s0:=by
  have hlt:=h.lt;have hlo:=h.lo;have hcl:=hc.lt;have hsg:sv.ownBlock≠some g:=fun q=>by have:=(h.st.lt g q).1;omega
  have hgm:¬ MaS mb sv g:=fun q=>by
    rcases q with q | q
    · omega
    · exact hsg q
  have hbm:¬ MaS mb sv w.heap.size:=fun q=>by
    rcases q with q | q
    · omega
    · have:=(h.st.lt _ q).2;omega
  have hs:=hk.size;rw [World.size_alloc] at hs;have hbx:=(hk.block w.heap.size (by rw [World.size_alloc];omega) hbm).trans (heap_alloc_new w (Obj.cells #[.int .i64 op,.int .i64 n] 89));exact ⟨hm,hc.keep ((hk.block g (by rw [World.size_alloc];omega) hgm).trans (Lib.alloc_old w _ g hcl)),(KB.of_below (zaa w _)).trans (zlq hk rfl),ho,by simp [World.cell?,hbx],by simp [World.cell?,hbx],⟨hcl,by omega,hsg,hlt⟩,by omega⟩
theorem CeP.push {w w0:World} {mb base g:Nat} {op n:Int} {st:List Int} {b0 cc N:Nat} {cs:List Cs} {sv s0:Value} (h:CeP w w0 mb base g op n st b0 cc N cs sv s0) {W:World} {cs1:List Cs} (hW:KB (fun b=>b=g) w0 W) (hc:CeW W b0 g cc N cs1) (x:Int) (hs:st.length≤1000) (hgs:w.heap.size≠mb) (hsv:sv.ownBlock≠some w.heap.size) :
    Calls Tryz.prog 54 #[.pointer (some ⟨mb,0,none⟩),.int .i64 x] W (fun e w'=>RetCel mb base (st++[x]) b0 g cc N cs1 w sv e w'∧w'.cell? ⟨w.heap.size,1,none⟩=some (.int .i64 n)∧w.heap.size<w'.heap.size):=by
  have hm:MaW W mb base st s0:=h.ma.keep fun b hb=>hW.block b (by
    rcases hb with rfl | e
    · exact h.ma.lt
    · exact (h.ma.st.lt b e).2) (fun q=>by
      rcases hb with rfl | e
      · exact h.hg.2.1 q.symm
      · rw [h.ob,q] at e;exact h.hg.2.2.1 e)
  refine (zaY hm x (by omega)).mono fun e w' hr => ?_
  obtain ⟨he,sv',hm',hk',hf'⟩:=hr
  have hgn:¬ MaS mb s0 g:=fun q=>by
    rcases q with q | q
    · exact h.hg.2.1 q
    · rw [h.ob] at q;exact h.hg.2.2.1 q
  have hbn:¬ MaS mb s0 w.heap.size:=fun q=>by
    rcases q with q | q
    · exact hgs q
    · rw [h.ob] at q;exact hsv q
  have hb1:w'.cell? ⟨w.heap.size,1,none⟩=some (.int .i64 n):=by
    have e1:=hW.block w.heap.size h.bl (fun q=>by have:=h.hg.1;omega);have e2:=hk'.block w.heap.size (Nat.lt_of_lt_of_le h.bl hW.size) hbn;exact (World.cell?_of_block (a:=⟨w.heap.size,1,none⟩) (e2.trans e1)).trans h.b1
  refine ⟨⟨he,sv',hm',hc.keep (hk'.block g hc.lt hgn),(h.kb.trans (hW.mono fun b _ q => .inr q)).trans (zlq hk' h.ob),?_⟩,hb1,Nat.lt_of_lt_of_le h.bl (Nat.le_trans hW.size hk'.size)⟩
  rcases hf' with q | ⟨z,q,hz⟩
  · exact .inl (q.trans h.ob)
  · exact .inr ⟨z,q,by have:=hW.size;have:=h.kb.size;omega⟩
theorem RetCel.setOn {mb base:Nat} {st':List Int} {b0 g cc N:Nat} {cs':List Cs} {w:World} {sv:Value} {e:Ending} {w':World} (h:RetCel mb base st' b0 g cc N cs' w sv e w') (hgb:g<base) (hgs:base≤mb) {k:Nat} {c:Cs} (hk:cs'[k]? = some c) (x:Bool) :
    RetCel mb base st' b0 g cc N (cs'.set k ⟨x,c.n⟩) w sv e (w'.setCell ⟨g,k*2,none⟩ (.bool x)):=by
  obtain ⟨he,sv',hm,hc,hkb,hf⟩:=h;refine ⟨he,sv',hm.keep (fun b hb=>Below.heap_setCell w' _ _ b (fun q => ?_)),hc.setOn hk x,hkb.trans (zkY _ _ _ _ _ _),hf⟩
  have q':b=g:=q
  rcases hb with e1 | e1
  · omega
  · have:=(hm.st.lt b e1).1;omega
theorem RetCel.setN {mb base:Nat} {st':List Int} {b0 g cc N:Nat} {cs':List Cs} {w:World} {sv:Value} {e:Ending} {w':World} (h:RetCel mb base st' b0 g cc N cs' w sv e w') (hgb:g<base) (hgs:base≤mb) {k:Nat} {c:Cs} (hk:cs'[k]? = some c) (z:Int) :
    RetCel mb base st' b0 g cc N (cs'.set k ⟨c.on,z⟩) w sv e (w'.setCell ⟨g,k*2+1,none⟩ (.int .i64 z)):=by
  obtain ⟨he,sv',hm,hc,hkb,hf⟩:=h;refine ⟨he,sv',hm.keep (fun b hb=>Below.heap_setCell w' _ _ b (fun q => ?_)),hc.setN hk z,hkb.trans (zkY _ _ _ _ _ _),hf⟩
  have q':b=g:=q
  rcases hb with e1 | e1
  · omega
  · have:=(hm.st.lt b e1).1;omega
theorem RetCel.to {mb base:Nat} {st' st2:List Int} {b0 g cc N:Nat} {cs' cs2:List Cs} {w:World} {sv:Value} {e:Ending} {w':World} (h:RetCel mb base st' b0 g cc N cs' w sv e w') (h1:st'=st2) (h2:cs'=cs2):RetCel mb base st2 b0 g cc N cs2 w sv e w':=by subst h1;subst h2;exact h
theorem CeP.pop {w w0 w1:World} {mb base g:Nat} {op n:Int} {st st1:List Int} {b0 cc N:Nat} {cs:List Cs} {sv s0 s1:Value} (h:CeP w w0 mb base g op n st b0 cc N cs sv s0) (hm:MaW w1 mb base st1 s1) (hk:KB (MaS mb s0) w0 w1) (ho:s1.ownBlock=s0.ownBlock) (hgs:w.heap.size≠mb) (hsv:sv.ownBlock≠some w.heap.size) :
    CeP w w1 mb base g op n st1 b0 cc N cs sv s1:=by
  have hgn:¬ MaS mb s0 g:=fun q=>by
    rcases q with q | q
    · exact h.hg.2.1 q
    · rw [h.ob] at q;exact h.hg.2.2.1 q
  have hbn:¬ MaS mb s0 w.heap.size:=fun q=>by
    rcases q with q | q
    · exact hgs q
    · rw [h.ob] at q;exact hsv q
  have e:=hk.block w.heap.size h.bl hbn;exact ⟨hm,h.ce.keep (hk.block g h.ce.lt hgn),h.kb.trans (zlq hk h.ob),ho.trans h.ob,(World.cell?_of_block (a:=⟨w.heap.size,0,none⟩) e).trans h.b0,(World.cell?_of_block (a:=⟨w.heap.size,1,none⟩) e).trans h.b1,h.hg,Nat.lt_of_lt_of_le h.bl hk.size⟩
theorem zjP {w:World} {mb base:Nat} {st:List Int} {sv:Value} (x n:Int) (h:MaW w mb base (st++[x]) sv) (hs:st.length≤1000) {b0 g cc N:Nat} {cs:List Cs} (hc:CeW w b0 g cc N cs) {k:Nat} {c:Cs} (hk:cs[k]? = some c) (hg:g<base) :
    Calls Tryz.prog 57 #[.pointer (some ⟨mb,0,none⟩),.agg #[.int .i64 17,.int .i64 n],.pointer (some ⟨g,k*2,none⟩)] w (RetCel mb base (st++[(zbq 17 n c (decide (x=1)) false).1]) b0 g cc N (cs.set k (zbq 17 n c (decide (x=1)) false).2) w sv):=by
  have HX:=Hi (h.below (zaa w (Obj.cells #[.int .i64 17,.int .i64 n] 89)));have HH:=Hi (And.intro h hc);have hgm:=h.lo;have hgs:w.heap.size≠mb:=by have:=h.lt;omega
  have hsv:sv.ownBlock≠some w.heap.size:=fun q=>by have:=(h.st.lt _ q).2;omega
  have HGS:=Hi (And.intro hgs hsv);clear hgs hsv;obtain ⟨on,z⟩:=c;have HK:=Hi hk
  try dsimp only at *
  clear h hc hk;go_enter Tryz.func57,Tryz.ntmps57;go_wp2_with fail
  refine (zaF HX.out (by omega)).mono ?_
  rintro e0 w0 ⟨rfl,s0,hm0,hk0,ho0,hz0⟩
  have HP:=Hi (zeA HH.out.1 HH.out.2 hg hm0 hk0 ho0);clear hm0 hk0 ho0 hz0 HX;have b0:=HP.out.b0;have b1:=HP.out.b1;have hbl:=HP.out.bl;obtain ⟨t0,t1,f0,f1⟩:=HP.out.ce.get HK.out;have hg0:=HP.out.ce.lt;have hgl:=HP.out.hg.1;dsimp only at t0 t1
  by_cases hx:x=1
  · subst hx
    have HA:=Hi (show decide ((1:Int)=1)=true from rfl)
    cases on
    all_goals
      go_wp2_with fail
      refine (zaU _ _).mono ?_
      rintro e5 w5 ⟨rfl,rfl⟩
      go_wp2_with fail
      refine (HP.out.push (KB.refl _ _) HP.out.ce _ hs HGS.out.1 HGS.out.2).mono ?_
      rintro e w9 ⟨hres,bx9,bl9⟩
      have HR:=Hi hres
      obtain ⟨rfl,sv9,hm9,hc9,-,-⟩:=hres
      obtain ⟨u0,u1,g0,g1⟩:=hc9.get HK.out
      have hg9:=hc9.lt
      dsimp only at u0 u1
      clear hm9 hc9
      go_wp2
      go_end0
      exact (HR.out.setOn hg hgm HK.out true).to (by rw [HA.out];rfl) (by rw [HA.out];rfl)
  · have hb:(x == 1)=false:=by simpa using hx
    have HA:=Hi (show decide (x=1)=false by simpa using hx)
    clear hx
    cases on
    all_goals
      go_wp2_with fail
      refine (zaU _ _).mono ?_
      rintro e5 w5 ⟨rfl,rfl⟩
      go_wp2_with fail
      refine (HP.out.push (KB.refl _ _) HP.out.ce _ hs HGS.out.1 HGS.out.2).mono ?_
      rintro e w9 ⟨hres,bx9,bl9⟩
      have HR:=Hi hres
      obtain ⟨rfl,sv9,hm9,hc9,-,-⟩:=hres
      obtain ⟨u0,u1,g0,g1⟩:=hc9.get HK.out
      have hg9:=hc9.lt
      dsimp only at u0 u1
      clear hm9 hc9
      go_wp2
      go_end0
      exact (HR.out.setOn hg hgm HK.out false).to (by rw [HA.out];rfl) (by rw [HA.out];rfl)
theorem zjN {w:World} {mb base:Nat} {st:List Int} {sv:Value} (x n:Int) (h:MaW w mb base (st++[x]) sv) (hs:st.length≤1000) {b0 g cc N:Nat} {cs:List Cs} (hc:CeW w b0 g cc N cs) {k:Nat} {c:Cs} (hk:cs[k]? = some c) (hg:g<base) :
    Calls Tryz.prog 57 #[.pointer (some ⟨mb,0,none⟩),.agg #[.int .i64 18,.int .i64 n],.pointer (some ⟨g,k*2,none⟩)] w (RetCel mb base (st++[(zbq 18 n c (decide (x=1)) false).1]) b0 g cc N (cs.set k (zbq 18 n c (decide (x=1)) false).2) w sv):=by
  have HX:=Hi (h.below (zaa w (Obj.cells #[.int .i64 18,.int .i64 n] 89)));have HH:=Hi (And.intro h hc);have hgm:=h.lo;have hgs:w.heap.size≠mb:=by have:=h.lt;omega
  have hsv:sv.ownBlock≠some w.heap.size:=fun q=>by have:=(h.st.lt _ q).2;omega
  have HGS:=Hi (And.intro hgs hsv);clear hgs hsv;obtain ⟨on,z⟩:=c;have HK:=Hi hk
  try dsimp only at *
  clear h hc hk;go_enter Tryz.func57,Tryz.ntmps57;go_wp2_with fail
  refine (zaF HX.out (by omega)).mono ?_
  rintro e0 w0 ⟨rfl,s0,hm0,hk0,ho0,hz0⟩
  have HP:=Hi (zeA HH.out.1 HH.out.2 hg hm0 hk0 ho0);clear hm0 hk0 ho0 hz0 HX;have b0:=HP.out.b0;have b1:=HP.out.b1;have hbl:=HP.out.bl;obtain ⟨t0,t1,f0,f1⟩:=HP.out.ce.get HK.out;have hg0:=HP.out.ce.lt;have hgl:=HP.out.hg.1;dsimp only at t0 t1
  by_cases hx:x=1
  · subst hx
    have HA:=Hi (show decide ((1:Int)=1)=true from rfl)
    cases on
    all_goals
      go_wp2_with fail
      refine (zaU _ _).mono ?_
      rintro e5 w5 ⟨rfl,rfl⟩
      go_wp2_with fail
      refine (HP.out.push (KB.refl _ _) HP.out.ce _ hs HGS.out.1 HGS.out.2).mono ?_
      rintro e w9 ⟨hres,bx9,bl9⟩
      have HR:=Hi hres
      obtain ⟨rfl,sv9,hm9,hc9,-,-⟩:=hres
      obtain ⟨u0,u1,g0,g1⟩:=hc9.get HK.out
      have hg9:=hc9.lt
      dsimp only at u0 u1
      clear hm9 hc9
      go_wp2
      go_end0
      exact (HR.out.setOn hg hgm HK.out true).to (by rw [HA.out];rfl) (by rw [HA.out];rfl)
  · have hb:(x == 1)=false:=by simpa using hx
    have HA:=Hi (show decide (x=1)=false by simpa using hx)
    clear hx
    cases on
    all_goals
      go_wp2_with fail
      refine (zaU _ _).mono ?_
      rintro e5 w5 ⟨rfl,rfl⟩
      go_wp2_with fail
      refine (HP.out.push (KB.refl _ _) HP.out.ce _ hs HGS.out.1 HGS.out.2).mono ?_
      rintro e w9 ⟨hres,bx9,bl9⟩
      have HR:=Hi hres
      obtain ⟨rfl,sv9,hm9,hc9,-,-⟩:=hres
      obtain ⟨u0,u1,g0,g1⟩:=hc9.get HK.out
      have hg9:=hc9.lt
      dsimp only at u0 u1
      clear hm9 hc9
      go_wp2
      go_end0
      exact (HR.out.setOn hg hgm HK.out false).to (by rw [HA.out];rfl) (by rw [HA.out];rfl)
theorem zjO {w:World} {mb base:Nat} {st:List Int} {sv:Value} (x n:Int) (h:MaW w mb base (st++[x]) sv) (hs:st.length≤1000) {b0 g cc N:Nat} {cs:List Cs} (hc:CeW w b0 g cc N cs) {k:Nat} {c:Cs} (hk:cs[k]? = some c) (hg:g<base) (hz:0≤c.n∧c.n≤100000) :
    Calls Tryz.prog 57 #[.pointer (some ⟨mb,0,none⟩),.agg #[.int .i64 20,.int .i64 n],.pointer (some ⟨g,k*2,none⟩)] w (RetCel mb base (st++[(zbq 20 n c (decide (x=1)) false).1]) b0 g cc N (cs.set k (zbq 20 n c (decide (x=1)) false).2) w sv):=by
  have HX:=Hi (h.below (zaa w (Obj.cells #[.int .i64 20,.int .i64 n] 89)));have HH:=Hi (And.intro h hc);have hgm:=h.lo;have hgs:w.heap.size≠mb:=by have:=h.lt;omega
  have hsv:sv.ownBlock≠some w.heap.size:=fun q=>by have:=(h.st.lt _ q).2;omega
  have HGS:=Hi (And.intro hgs hsv);clear hgs hsv;obtain ⟨on,z⟩:=c;have HK:=Hi hk
  try dsimp only at *
  clear h hc hk;go_enter Tryz.func57,Tryz.ntmps57;go_wp2_with fail
  refine (zaF HX.out (by omega)).mono ?_
  rintro e0 w0 ⟨rfl,s0,hm0,hk0,ho0,hz0⟩
  have HP:=Hi (zeA HH.out.1 HH.out.2 hg hm0 hk0 ho0);clear hm0 hk0 ho0 hz0 HX;have b0:=HP.out.b0;have b1:=HP.out.b1;have hbl:=HP.out.bl;obtain ⟨t0,t1,f0,f1⟩:=HP.out.ce.get HK.out;have hg0:=HP.out.ce.lt;have hgl:=HP.out.hg.1;dsimp only at t0 t1
  by_cases hx:x=1
  · subst hx
    have HA:=Hi (show decide ((1:Int)=1)=true from rfl)
    go_wp2_with fail
    refine (zaU _ _).mono ?_
    rintro e5 w5 ⟨rfl,rfl⟩
    go_wp2_with fail
    refine (HP.out.push (KB.refl _ _) HP.out.ce _ hs HGS.out.1 HGS.out.2).mono ?_
    rintro e w9 ⟨hres,bx9,bl9⟩
    have HR:=Hi hres
    obtain ⟨rfl,sv9,hm9,hc9,-,-⟩:=hres
    obtain ⟨u0,u1,g0,g1⟩:=hc9.get HK.out
    have hg9:=hc9.lt
    dsimp only at u0 u1
    clear hm9 hc9
    go_wp2
    go_end0
    exact ((HR.out.setN hg hgm HK.out _).setN hg hgm (zcl HK.out _) n).to (by rw [HA.out];rfl) (by rw [HA.out,set_set];rfl)
  · have hb:(x == 1)=false:=by simpa using hx
    have HA:=Hi (show decide (x=1)=false by simpa using hx)
    clear hx
    go_wp2_with fail
    refine (zaU _ _).mono ?_
    rintro e5 w5 ⟨rfl,rfl⟩
    go_wp2_with fail
    refine (HP.out.push (KB.refl _ _) HP.out.ce _ hs HGS.out.1 HGS.out.2).mono ?_
    rintro e w9 ⟨hres,bx9,bl9⟩
    have HR:=Hi hres
    obtain ⟨rfl,sv9,hm9,hc9,-,-⟩:=hres
    obtain ⟨u0,u1,g0,g1⟩:=hc9.get HK.out
    have hg9:=hc9.lt
    dsimp only at u0 u1
    clear hm9 hc9
    go_wp2
    go_end0
    exact (HR.out.setN hg hgm HK.out _).to (by rw [HA.out];rfl) (by rw [HA.out];rfl)
theorem zir {w:World} {mb base:Nat} {st:List Int} {sv:Value} (x y n:Int) (h:MaW w mb base (st++[x,y]) sv) (hs:st.length≤1000) {b0 g cc N:Nat} {cs:List Cs} (hc:CeW w b0 g cc N cs) {k:Nat} {c:Cs} (hk:cs[k]? = some c) (hg:g<base) :
    Calls Tryz.prog 57 #[.pointer (some ⟨mb,0,none⟩),.agg #[.int .i64 21,.int .i64 n],.pointer (some ⟨g,k*2,none⟩)] w (RetCel mb base (st++[(zbq 21 n c (decide (x=1)) (decide (y=1))).1]) b0 g cc N (cs.set k (zbq 21 n c (decide (x=1)) (decide (y=1))).2) w sv):=by
  have h:MaW w mb base ((st++[x])++[y]) sv:=by simpa using h
  have HX:=Hi (h.below (zaa w (Obj.cells #[.int .i64 21,.int .i64 n] 89)));have HH:=Hi (And.intro h hc);have hgm:=h.lo;have hgs:w.heap.size≠mb:=by have:=h.lt;omega
  have hsv:sv.ownBlock≠some w.heap.size:=fun q=>by have:=(h.st.lt _ q).2;omega
  have HGS:=Hi (And.intro hgs hsv);clear hgs hsv;obtain ⟨on,z⟩:=c;have HK:=Hi hk
  try dsimp only at *
  clear h hc hk;go_enter Tryz.func57,Tryz.ntmps57;go_wp2_with fail
  refine (zaF HX.out (by simp;omega)).mono ?_
  rintro e1 w1 ⟨rfl,s1,hm1,hk1,ho1,hz1⟩
  have HQ:=Hi (zeA HH.out.1 HH.out.2 hg hm1 hk1 ho1);clear hm1 hk1 ho1 hz1 HX;have b2:=HQ.out.b0;have hbl2:=HQ.out.bl;go_wp2_with fail
  refine (zaF HQ.out.ma (by omega)).mono ?_
  rintro e0 w0 ⟨rfl,s0,hm0,hk0,ho0,hz0⟩
  have HP:=Hi (HQ.out.pop hm0 hk0 ho0 HGS.out.1 HGS.out.2);clear hm0 hk0 ho0 hz0 HQ b2 hbl2;have b0:=HP.out.b0;have b1:=HP.out.b1;have hbl:=HP.out.bl;obtain ⟨t0,t1,f0,f1⟩:=HP.out.ce.get HK.out;have hg0:=HP.out.ce.lt;have hgl:=HP.out.hg.1;dsimp only at t0 t1
  have hxs:(x=1∧(decide (x=1))=true)∨((x == 1)=false∧decide (x=1)=false):=by
    by_cases hx:x=1
    · exact .inl ⟨hx,by simpa using hx⟩
    · exact .inr ⟨by simpa using hx,by simpa using hx⟩
  have hys:(y=1∧(decide (y=1))=true)∨((y == 1)=false∧decide (y=1)=false):=by
    by_cases hy:y=1
    · exact .inl ⟨hy,by simpa using hy⟩
    · exact .inr ⟨by simpa using hy,by simpa using hy⟩
  rcases hxs with ⟨rfl,ha⟩ | ⟨hxb,ha⟩ <;> rcases hys with ⟨rfl,hb⟩ | ⟨hyb,hb⟩ <;> cases on
  · have HA:=Hi ha
    have HB:=Hi hb
    clear ha hb
    have hce:=HP.out.ce.setOn HK.out false
    dsimp only at hce
    have HPU:=Hi (fun v=>HP.out.push (W:=w0.setCell ⟨g,k*2,none⟩ (.bool false)) (KB.of_grown (zaf w0 g (k*2) _) (fun b _ q=>by injection q with q;exact q.symm)) hce v hs HGS.out.1 HGS.out.2)
    clear hce
    go_wp2_with fail
    refine (zaU _ _).mono ?_
    rintro e5 w5 ⟨rfl,rfl⟩
    go_wp2_with fail
    refine (HPU.out _).mono ?_
    rintro e w9 ⟨⟨rfl,hres⟩,-,-⟩
    have HR:=Hi (show RetCel mb base _ _ g cc N _ w sv (.returned (.tuple #[])) w9 from ⟨rfl,hres⟩)
    clear hres
    go_wp2
    go_end0
    exact HR.out.to (by first | (rw [HA.out,HB.out];rfl) | (rw [HA.out];rfl)) (by first | (rw [HA.out,HB.out];rfl) | (rw [HA.out];rfl))
  · have HA:=Hi ha
    have HB:=Hi hb
    clear ha hb
    have hce:=HP.out.ce.setOn HK.out false
    dsimp only at hce
    have HPU:=Hi (fun v=>HP.out.push (W:=w0.setCell ⟨g,k*2,none⟩ (.bool false)) (KB.of_grown (zaf w0 g (k*2) _) (fun b _ q=>by injection q with q;exact q.symm)) hce v hs HGS.out.1 HGS.out.2)
    clear hce
    go_wp2_with fail
    refine (zaU _ _).mono ?_
    rintro e5 w5 ⟨rfl,rfl⟩
    go_wp2_with fail
    refine (HPU.out _).mono ?_
    rintro e w9 ⟨⟨rfl,hres⟩,-,-⟩
    have HR:=Hi (show RetCel mb base _ _ g cc N _ w sv (.returned (.tuple #[])) w9 from ⟨rfl,hres⟩)
    clear hres
    go_wp2
    go_end0
    exact HR.out.to (by first | (rw [HA.out,HB.out];rfl) | (rw [HA.out];rfl)) (by first | (rw [HA.out,HB.out];rfl) | (rw [HA.out];rfl))
  · have HA:=Hi ha
    have HB:=Hi hb
    clear ha hb
    have hce:=HP.out.ce.setOn HK.out true
    dsimp only at hce
    have HPU:=Hi (fun v=>HP.out.push (W:=w0.setCell ⟨g,k*2,none⟩ (.bool true)) (KB.of_grown (zaf w0 g (k*2) _) (fun b _ q=>by injection q with q;exact q.symm)) hce v hs HGS.out.1 HGS.out.2)
    clear hce
    go_wp2_with fail
    refine (zaU _ _).mono ?_
    rintro e5 w5 ⟨rfl,rfl⟩
    go_wp2_with fail
    refine (HPU.out _).mono ?_
    rintro e w9 ⟨⟨rfl,hres⟩,-,-⟩
    have HR:=Hi (show RetCel mb base _ _ g cc N _ w sv (.returned (.tuple #[])) w9 from ⟨rfl,hres⟩)
    clear hres
    go_wp2
    go_end0
    exact HR.out.to (by first | (rw [HA.out,HB.out];rfl) | (rw [HA.out];rfl)) (by first | (rw [HA.out,HB.out];rfl) | (rw [HA.out];rfl))
  · have HA:=Hi ha
    have HB:=Hi hb
    clear ha hb
    have hce:=HP.out.ce.setOn HK.out true
    dsimp only at hce
    have HPU:=Hi (fun v=>HP.out.push (W:=w0.setCell ⟨g,k*2,none⟩ (.bool true)) (KB.of_grown (zaf w0 g (k*2) _) (fun b _ q=>by injection q with q;exact q.symm)) hce v hs HGS.out.1 HGS.out.2)
    clear hce
    go_wp2_with fail
    refine (zaU _ _).mono ?_
    rintro e5 w5 ⟨rfl,rfl⟩
    go_wp2_with fail
    refine (HPU.out _).mono ?_
    rintro e w9 ⟨⟨rfl,hres⟩,-,-⟩
    have HR:=Hi (show RetCel mb base _ _ g cc N _ w sv (.returned (.tuple #[])) w9 from ⟨rfl,hres⟩)
    clear hres
    go_wp2
    go_end0
    exact HR.out.to (by first | (rw [HA.out,HB.out];rfl) | (rw [HA.out];rfl)) (by first | (rw [HA.out,HB.out];rfl) | (rw [HA.out];rfl))
  · have HA:=Hi ha
    have HB:=Hi hb
    clear ha hb
    have hce:=HP.out.ce.setOn HK.out false
    dsimp only at hce
    have HPU:=Hi (fun v=>HP.out.push (W:=w0.setCell ⟨g,k*2,none⟩ (.bool false)) (KB.of_grown (zaf w0 g (k*2) _) (fun b _ q=>by injection q with q;exact q.symm)) hce v hs HGS.out.1 HGS.out.2)
    clear hce
    go_wp2_with fail
    refine (zaU _ _).mono ?_
    rintro e5 w5 ⟨rfl,rfl⟩
    go_wp2_with fail
    refine (HPU.out _).mono ?_
    rintro e w9 ⟨⟨rfl,hres⟩,-,-⟩
    have HR:=Hi (show RetCel mb base _ _ g cc N _ w sv (.returned (.tuple #[])) w9 from ⟨rfl,hres⟩)
    clear hres
    go_wp2
    go_end0
    exact HR.out.to (by first | (rw [HA.out,HB.out];rfl) | (rw [HA.out];rfl)) (by first | (rw [HA.out,HB.out];rfl) | (rw [HA.out];rfl))
  · have HA:=Hi ha
    have HB:=Hi hb
    clear ha hb
    have hce:=HP.out.ce.setOn HK.out false
    dsimp only at hce
    have HPU:=Hi (fun v=>HP.out.push (W:=w0.setCell ⟨g,k*2,none⟩ (.bool false)) (KB.of_grown (zaf w0 g (k*2) _) (fun b _ q=>by injection q with q;exact q.symm)) hce v hs HGS.out.1 HGS.out.2)
    clear hce
    go_wp2_with fail
    refine (zaU _ _).mono ?_
    rintro e5 w5 ⟨rfl,rfl⟩
    go_wp2_with fail
    refine (HPU.out _).mono ?_
    rintro e w9 ⟨⟨rfl,hres⟩,-,-⟩
    have HR:=Hi (show RetCel mb base _ _ g cc N _ w sv (.returned (.tuple #[])) w9 from ⟨rfl,hres⟩)
    clear hres
    go_wp2
    go_end0
    exact HR.out.to (by first | (rw [HA.out,HB.out];rfl) | (rw [HA.out];rfl)) (by first | (rw [HA.out,HB.out];rfl) | (rw [HA.out];rfl))
  · have HA:=Hi ha
    have HB:=Hi hb
    clear ha hb
    have hce:=HP.out.ce.setOn HK.out false
    dsimp only at hce
    have HPU:=Hi (fun v=>HP.out.push (W:=w0.setCell ⟨g,k*2,none⟩ (.bool false)) (KB.of_grown (zaf w0 g (k*2) _) (fun b _ q=>by injection q with q;exact q.symm)) hce v hs HGS.out.1 HGS.out.2)
    clear hce
    go_wp2_with fail
    refine (zaU _ _).mono ?_
    rintro e5 w5 ⟨rfl,rfl⟩
    go_wp2_with fail
    refine (HPU.out _).mono ?_
    rintro e w9 ⟨⟨rfl,hres⟩,-,-⟩
    have HR:=Hi (show RetCel mb base _ _ g cc N _ w sv (.returned (.tuple #[])) w9 from ⟨rfl,hres⟩)
    clear hres
    go_wp2
    go_end0
    exact HR.out.to (by first | (rw [HA.out,HB.out];rfl) | (rw [HA.out];rfl)) (by first | (rw [HA.out,HB.out];rfl) | (rw [HA.out];rfl))
  · have HA:=Hi ha
    have HB:=Hi hb
    clear ha hb
    have hce:=HP.out.ce.setOn HK.out true
    dsimp only at hce
    have HPU:=Hi (fun v=>HP.out.push (W:=w0.setCell ⟨g,k*2,none⟩ (.bool true)) (KB.of_grown (zaf w0 g (k*2) _) (fun b _ q=>by injection q with q;exact q.symm)) hce v hs HGS.out.1 HGS.out.2)
    clear hce
    go_wp2_with fail
    refine (zaU _ _).mono ?_
    rintro e5 w5 ⟨rfl,rfl⟩
    go_wp2_with fail
    refine (HPU.out _).mono ?_
    rintro e w9 ⟨⟨rfl,hres⟩,-,-⟩
    have HR:=Hi (show RetCel mb base _ _ g cc N _ w sv (.returned (.tuple #[])) w9 from ⟨rfl,hres⟩)
    clear hres
    go_wp2
    go_end0
    exact HR.out.to (by first | (rw [HA.out,HB.out];rfl) | (rw [HA.out];rfl)) (by first | (rw [HA.out,HB.out];rfl) | (rw [HA.out];rfl))
theorem zio {w:World} {mb base:Nat} {st:List Int} {sv:Value} (x y n:Int) (h:MaW w mb base (st++[x,y]) sv) (hs:st.length≤1000) {b0 g cc N:Nat} {cs:List Cs} (hc:CeW w b0 g cc N cs) {k:Nat} {c:Cs} (hk:cs[k]? = some c) (hg:g<base) (hz:0≤c.n∧c.n≤100000) :
    Calls Tryz.prog 57 #[.pointer (some ⟨mb,0,none⟩),.agg #[.int .i64 22,.int .i64 n],.pointer (some ⟨g,k*2,none⟩)] w (RetCel mb base (st++[(zbq 22 n c (decide (x=1)) (decide (y=1))).1]) b0 g cc N (cs.set k (zbq 22 n c (decide (x=1)) (decide (y=1))).2) w sv):=by
  have h:MaW w mb base ((st++[x])++[y]) sv:=by simpa using h
  have HX:=Hi (h.below (zaa w (Obj.cells #[.int .i64 22,.int .i64 n] 89)));have HH:=Hi (And.intro h hc);have hgm:=h.lo;have hgs:w.heap.size≠mb:=by have:=h.lt;omega
  have hsv:sv.ownBlock≠some w.heap.size:=fun q=>by have:=(h.st.lt _ q).2;omega
  have HGS:=Hi (And.intro hgs hsv);clear hgs hsv;obtain ⟨on,z⟩:=c;have HK:=Hi hk
  try dsimp only at *
  clear h hc hk;go_enter Tryz.func57,Tryz.ntmps57;go_wp2_with fail
  refine (zaF HX.out (by simp;omega)).mono ?_
  rintro e1 w1 ⟨rfl,s1,hm1,hk1,ho1,hz1⟩
  have HQ:=Hi (zeA HH.out.1 HH.out.2 hg hm1 hk1 ho1);clear hm1 hk1 ho1 hz1 HX;have b2:=HQ.out.b0;have hbl2:=HQ.out.bl;go_wp2_with fail
  refine (zaF HQ.out.ma (by omega)).mono ?_
  rintro e0 w0 ⟨rfl,s0,hm0,hk0,ho0,hz0⟩
  have HP:=Hi (HQ.out.pop hm0 hk0 ho0 HGS.out.1 HGS.out.2);clear hm0 hk0 ho0 hz0 HQ b2 hbl2;have b0:=HP.out.b0;have b1:=HP.out.b1;have hbl:=HP.out.bl;obtain ⟨t0,t1,f0,f1⟩:=HP.out.ce.get HK.out;have hg0:=HP.out.ce.lt;have hgl:=HP.out.hg.1;dsimp only at t0 t1
  have hxs:(x=1∧(decide (x=1))=true)∨((x == 1)=false∧decide (x=1)=false):=by
    by_cases hx:x=1
    · exact .inl ⟨hx,by simpa using hx⟩
    · exact .inr ⟨by simpa using hx,by simpa using hx⟩
  have hys:(y=1∧(decide (y=1))=true)∨((y == 1)=false∧decide (y=1)=false):=by
    by_cases hy:y=1
    · exact .inl ⟨hy,by simpa using hy⟩
    · exact .inr ⟨by simpa using hy,by simpa using hy⟩
  rcases hxs with ⟨rfl,ha⟩ | ⟨hxb,ha⟩ <;> rcases hys with ⟨rfl,hb⟩ | ⟨hyb,hb⟩ <;> cases on
  · have HA:=Hi ha
    have HB:=Hi hb
    clear ha hb
    have hce:=(HP.out.ce.setN HK.out 0).setOn (zcl HK.out _) true
    dsimp only at hce
    have HPU:=Hi (fun v=>HP.out.push (W:=(w0.setCell ⟨g,k*2+1,none⟩ (.int .i64 0)).setCell ⟨g,k*2,none⟩ (.bool true)) ((KB.of_grown (zaf w0 g _ _) (fun b _ q=>by injection q with q;exact q.symm)).trans (KB.of_grown (zaf _ g _ _) (fun b _ q=>by injection q with q;exact q.symm))) hce v hs HGS.out.1 HGS.out.2)
    have hzw : -9223372036854775808≤z+1∧z+1≤9223372036854775807:=by omega
    clear hce
    go_wp2_with fail
    refine (HPU.out _).mono ?_
    rintro e w9 ⟨⟨rfl,hres⟩,-,-⟩
    have HR:=Hi (show RetCel mb base _ _ g cc N _ w sv (.returned (.tuple #[])) w9 from ⟨rfl,hres⟩)
    clear hres
    go_wp2
    go_end0
    exact HR.out.to (by first | (rw [HA.out,HB.out];rfl) | (rw [HA.out];rfl)) (by first | (rw [HA.out,HB.out];rw [set_set];rfl) | (rw [HA.out];rw [set_set];rfl))
  · have HA:=Hi ha
    have HB:=Hi hb
    clear ha hb
    have hce:=(HP.out.ce.setN HK.out 0).setOn (zcl HK.out _) true
    dsimp only at hce
    have HPU:=Hi (fun v=>HP.out.push (W:=(w0.setCell ⟨g,k*2+1,none⟩ (.int .i64 0)).setCell ⟨g,k*2,none⟩ (.bool true)) ((KB.of_grown (zaf w0 g _ _) (fun b _ q=>by injection q with q;exact q.symm)).trans (KB.of_grown (zaf _ g _ _) (fun b _ q=>by injection q with q;exact q.symm))) hce v hs HGS.out.1 HGS.out.2)
    have hzw : -9223372036854775808≤z+1∧z+1≤9223372036854775807:=by omega
    clear hce
    go_wp2_with fail
    refine (HPU.out _).mono ?_
    rintro e w9 ⟨⟨rfl,hres⟩,-,-⟩
    have HR:=Hi (show RetCel mb base _ _ g cc N _ w sv (.returned (.tuple #[])) w9 from ⟨rfl,hres⟩)
    clear hres
    go_wp2
    go_end0
    exact HR.out.to (by first | (rw [HA.out,HB.out];rfl) | (rw [HA.out];rfl)) (by first | (rw [HA.out,HB.out];rw [set_set];rfl) | (rw [HA.out];rw [set_set];rfl))
  · have HA:=Hi ha
    have HB:=Hi hb
    clear ha hb
    have hce:=(HP.out.ce.setN HK.out (min (z+1) 32767)).setOn (zcl HK.out _) true
    dsimp only at hce
    have HPU:=Hi (fun v=>HP.out.push (W:=(w0.setCell ⟨g,k*2+1,none⟩ (.int .i64 (min (z+1) 32767))).setCell ⟨g,k*2,none⟩ (.bool true)) ((KB.of_grown (zaf w0 g _ _) (fun b _ q=>by injection q with q;exact q.symm)).trans (KB.of_grown (zaf _ g _ _) (fun b _ q=>by injection q with q;exact q.symm))) hce v hs HGS.out.1 HGS.out.2)
    have hzw : -9223372036854775808≤z+1∧z+1≤9223372036854775807:=by omega
    clear hce
    go_wp2_with fail
    refine (HPU.out _).mono ?_
    rintro e w9 ⟨⟨rfl,hres⟩,-,-⟩
    have HR:=Hi (show RetCel mb base _ _ g cc N _ w sv (.returned (.tuple #[])) w9 from ⟨rfl,hres⟩)
    clear hres
    go_wp2
    go_end0
    exact HR.out.to (by first | (rw [HA.out,HB.out];rfl) | (rw [HA.out];rfl)) (by first | (rw [HA.out,HB.out];rw [set_set];rfl) | (rw [HA.out];rw [set_set];rfl))
  · have HA:=Hi ha
    have HB:=Hi hb
    clear ha hb
    have hce:=HP.out.ce.setOn HK.out true
    dsimp only at hce
    have HPU:=Hi (fun v=>HP.out.push (W:=w0.setCell ⟨g,k*2,none⟩ (.bool true)) (KB.of_grown (zaf w0 g _ _) (fun b _ q=>by injection q with q;exact q.symm)) hce v hs HGS.out.1 HGS.out.2)
    have hzw : -9223372036854775808≤z+1∧z+1≤9223372036854775807:=by omega
    clear hce
    go_wp2_with fail
    refine (HPU.out _).mono ?_
    rintro e w9 ⟨⟨rfl,hres⟩,-,-⟩
    have HR:=Hi (show RetCel mb base _ _ g cc N _ w sv (.returned (.tuple #[])) w9 from ⟨rfl,hres⟩)
    clear hres
    go_wp2
    go_end0
    exact HR.out.to (by first | (rw [HA.out,HB.out];rfl) | (rw [HA.out];rfl)) (by first | (rw [HA.out,HB.out];rfl) | (rw [HA.out];rfl))
  · have HA:=Hi ha
    have HB:=Hi hb
    clear ha hb
    have hce:=(HP.out.ce.setN HK.out 0).setOn (zcl HK.out _) false
    dsimp only at hce
    have HPU:=Hi (fun v=>HP.out.push (W:=(w0.setCell ⟨g,k*2+1,none⟩ (.int .i64 0)).setCell ⟨g,k*2,none⟩ (.bool false)) ((KB.of_grown (zaf w0 g _ _) (fun b _ q=>by injection q with q;exact q.symm)).trans (KB.of_grown (zaf _ g _ _) (fun b _ q=>by injection q with q;exact q.symm))) hce v hs HGS.out.1 HGS.out.2)
    have hzw : -9223372036854775808≤z+1∧z+1≤9223372036854775807:=by omega
    clear hce
    go_wp2_with fail
    refine (HPU.out _).mono ?_
    rintro e w9 ⟨⟨rfl,hres⟩,-,-⟩
    have HR:=Hi (show RetCel mb base _ _ g cc N _ w sv (.returned (.tuple #[])) w9 from ⟨rfl,hres⟩)
    clear hres
    go_wp2
    go_end0
    exact HR.out.to (by first | (rw [HA.out,HB.out];rfl) | (rw [HA.out];rfl)) (by first | (rw [HA.out,HB.out];rw [set_set];rfl) | (rw [HA.out];rw [set_set];rfl))
  · have HA:=Hi ha
    have HB:=Hi hb
    clear ha hb
    have hce:=(HP.out.ce.setN HK.out 0).setOn (zcl HK.out _) false
    dsimp only at hce
    have HPU:=Hi (fun v=>HP.out.push (W:=(w0.setCell ⟨g,k*2+1,none⟩ (.int .i64 0)).setCell ⟨g,k*2,none⟩ (.bool false)) ((KB.of_grown (zaf w0 g _ _) (fun b _ q=>by injection q with q;exact q.symm)).trans (KB.of_grown (zaf _ g _ _) (fun b _ q=>by injection q with q;exact q.symm))) hce v hs HGS.out.1 HGS.out.2)
    have hzw : -9223372036854775808≤z+1∧z+1≤9223372036854775807:=by omega
    clear hce
    go_wp2_with fail
    refine (HPU.out _).mono ?_
    rintro e w9 ⟨⟨rfl,hres⟩,-,-⟩
    have HR:=Hi (show RetCel mb base _ _ g cc N _ w sv (.returned (.tuple #[])) w9 from ⟨rfl,hres⟩)
    clear hres
    go_wp2
    go_end0
    exact HR.out.to (by first | (rw [HA.out,HB.out];rfl) | (rw [HA.out];rfl)) (by first | (rw [HA.out,HB.out];rw [set_set];rfl) | (rw [HA.out];rw [set_set];rfl))
  · have HA:=Hi ha
    have HB:=Hi hb
    clear ha hb
    have hce:=HP.out.ce.setOn HK.out false
    dsimp only at hce
    have HPU:=Hi (fun v=>HP.out.push (W:=w0.setCell ⟨g,k*2,none⟩ (.bool false)) (KB.of_grown (zaf w0 g _ _) (fun b _ q=>by injection q with q;exact q.symm)) hce v hs HGS.out.1 HGS.out.2)
    have hzw : -9223372036854775808≤z+1∧z+1≤9223372036854775807:=by omega
    clear hce
    go_wp2_with fail
    refine (HPU.out _).mono ?_
    rintro e w9 ⟨⟨rfl,hres⟩,-,-⟩
    have HR:=Hi (show RetCel mb base _ _ g cc N _ w sv (.returned (.tuple #[])) w9 from ⟨rfl,hres⟩)
    clear hres
    go_wp2
    go_end0
    exact HR.out.to (by first | (rw [HA.out,HB.out];rfl) | (rw [HA.out];rfl)) (by first | (rw [HA.out,HB.out];rfl) | (rw [HA.out];rfl))
  · have HA:=Hi ha
    have HB:=Hi hb
    clear ha hb
    have hce:=HP.out.ce.setOn HK.out false
    dsimp only at hce
    have HPU:=Hi (fun v=>HP.out.push (W:=w0.setCell ⟨g,k*2,none⟩ (.bool false)) (KB.of_grown (zaf w0 g _ _) (fun b _ q=>by injection q with q;exact q.symm)) hce v hs HGS.out.1 HGS.out.2)
    have hzw : -9223372036854775808≤z+1∧z+1≤9223372036854775807:=by omega
    clear hce
    go_wp2_with fail
    refine (HPU.out _).mono ?_
    rintro e w9 ⟨⟨rfl,hres⟩,-,-⟩
    have HR:=Hi (show RetCel mb base _ _ g cc N _ w sv (.returned (.tuple #[])) w9 from ⟨rfl,hres⟩)
    clear hres
    go_wp2
    go_end0
    exact HR.out.to (by first | (rw [HA.out,HB.out];rfl) | (rw [HA.out];rfl)) (by first | (rw [HA.out,HB.out];rfl) | (rw [HA.out];rfl))
end Go.Proofs.YtcikenlflcofbaaGreatDoor
