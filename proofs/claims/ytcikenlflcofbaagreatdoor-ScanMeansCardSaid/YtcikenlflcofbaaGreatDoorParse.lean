/-
  Parse.
-/
import Derived.Test.YtcikenlflcofbaaGreatDoorKCatch
set_option maxRecDepth 100000
set_option maxHeartbeats 8000000
namespace Go.Proofs.YtcikenlflcofbaaGreatDoor
open Go.RowKit
attribute [local go_sem] zbZ
def zbz (r:Ex × Int × Int) (w:World) (e:Ending) (w':World):Prop:=
  ∃ op n nm A c ks,r.1 = .mk op n nm ks∧e = .returned (.tuple #[exV op n nm A ks.length c,.int .i64 r.2.1,.int .i64 r.2.2])∧ks.length≤c∧c≤maxLen∧ExP op n nm∧Rw ExV 4 w' (New w w') A ks.length ks∧Below w.heap.size w w'
theorem zcJ {w w':World} {r:Ex × Int × Int} (a er:Int) (hr:r=(.zero,a,er)) (hb:Below w.heap.size w w') :
    zbz r w (.returned (.tuple #[.agg #[.int .i64 0,.int .i64 0,.string ⟨#[]⟩,.slice Option.none 0 0],.int .i64 a,.int .i64 er])) w':=by
  subst hr;exact ⟨0,0,[],Option.none,0,[],rfl,rfl,Nat.le_refl _,Nat.zero_le _,⟨by decide,by decide,by simp⟩,Rw.nil,hb⟩
theorem zcz (w:World):ResBox (((w.alloc (Obj.cells #[.int .i64 0,.int .i64 0,.string ⟨#[]⟩,.slice Option.none 0 0] 48)).alloc (Obj.cells #[.int .i64 0] 3)).alloc (Obj.cells #[.int .i64 0] 28)) w.heap.size 0 0 [] Option.none 0 0 0 0:=by
  have h1:=XV.new w 0 0 [] Option.none 0 0
  have h2:IntBox ((w.alloc (Obj.cells #[.int .i64 0,.int .i64 0,.string ⟨#[]⟩,.slice Option.none 0 0] 48)).alloc (Obj.cells #[.int .i64 0] 3)) (w.heap.size+1) 0:=by
    have:=heap_alloc_new (w.alloc (Obj.cells #[.int .i64 0,.int .i64 0,.string ⟨#[]⟩,.slice Option.none 0 0] 48)) (Obj.cells #[.int .i64 0] 3);rw [World.size_alloc] at this;exact this
  have h3:=heap_alloc_new ((w.alloc (Obj.cells #[.int .i64 0,.int .i64 0,.string ⟨#[]⟩,.slice Option.none 0 0] 48)).alloc (Obj.cells #[.int .i64 0] 3)) (Obj.cells #[.int .i64 0] 28);rw [World.size_alloc,World.size_alloc] at h3;exact ⟨(h1.grown (World.grownBy_alloc _ _ Option.none) (by simp)).grown (World.grownBy_alloc _ _ Option.none) (by simp),h2.grown (World.grownBy_alloc _ _ Option.none) (by simp),h3⟩
theorem za3 (w:World):Below w.heap.size w (((w.alloc (Obj.cells #[.int .i64 0,.int .i64 0,.string ⟨#[]⟩,.slice Option.none 0 0] 48)).alloc (Obj.cells #[.int .i64 0] 3)).alloc (Obj.cells #[.int .i64 0] 28)):=(((Below.refl _ w).alloc (Nat.le_refl _) _).alloc (by rw [World.size_alloc];omega) _).alloc (by rw [World.size_alloc,World.size_alloc];omega) _
theorem zhZ (w:World) (er:Int):Below w.heap.size w (((w.alloc (Obj.cells #[.int .i64 0,.int .i64 0,.string ⟨#[]⟩,.slice Option.none 0 0] 48)).alloc (Obj.cells #[.int .i64 0] 3)).alloc (Obj.cells #[.int .i64 er] 28)):=(((Below.refl _ w).alloc (Nat.le_refl _) _).alloc (by rw [World.size_alloc];omega) _).alloc (by rw [World.size_alloc,World.size_alloc];omega) _
theorem zkp {w:World} {g:Nat} {op n:Int} {nm:List UInt8} {A:Option Addr} {k c:Nat} {a er:Int} (h:ResBox w g op n nm A k c a er) (op' n':Int) (nm':List UInt8) (A':Option Addr) (k' c':Nat):ResBox (set4 w g (.int .i64 op') (.int .i64 n') (.string ⟨nm'.toArray⟩) (.slice A' k' c')) g op' n' nm' A' k' c' a er:=
  ⟨⟨zb6 h.x.heap _ _ _ _⟩,h.p.grown (zaD w g _ _ _ _) (by intro q;injection q;omega),((zaD w g (.int .i64 op') (.int .i64 n') (.string ⟨nm'.toArray⟩) (.slice A' k' c')).block (g+2) h.lt (by intro q;injection q;omega)).trans h.e⟩
theorem zjg (w:World) (g:Nat) (op n:Int) (nm:List UInt8) (A:Option Addr) (k c:Nat) (a er:Int):(put6 w g op n nm A k c a er).heap.size=w.heap.size:=by
  unfold put6;rw [World.size_setCell,World.size_setCell,zaz]
theorem zhz {S:Nat→Prop} (w:World) (g:Nat) (op n:Int) (nm:List UInt8) (A:Option Addr) (k c:Nat) (a er:Int) (hS:∀ b,S b→b<w.heap.size∧g+3≤b):KeepOn S w (put6 w g op n nm A k c a er):=by
  have h1:=zaD w g (.int .i64 op) (.int .i64 n) (.string ⟨nm.toArray⟩) (.slice A k c);have h2:=zaf (set4 w g (.int .i64 op) (.int .i64 n) (.string ⟨nm.toArray⟩) (.slice A k c)) (g+1) 0 (.int .i64 a);have h3:=zaf ((set4 w g (.int .i64 op) (.int .i64 n) (.string ⟨nm.toArray⟩) (.slice A k c)).setCell ⟨g+1,0,none⟩ (.int .i64 a)) (g+2) 0 (.int .i64 er);exact ((zah h1 fun b hb=>⟨(hS b hb).1,fun q=>by have:=(hS b hb).2;injection q;omega⟩).trans (zah h2 fun b hb=>⟨by rw [zaz];exact (hS b hb).1,fun q=>by have:=(hS b hb).2;injection q;omega⟩)).trans (zah h3 fun b hb=>⟨by rw [World.size_setCell,zaz];exact (hS b hb).1,fun q=>by have:=(hS b hb).2;injection q;omega⟩)
theorem zf2 {t:List UInt8} {l:List Tok} {w1:World} {base c:Nat} {A:Option Addr} (hw:∀ k∈l,TokW t k) (hl:l.length≤120) (ho:w1.ownsRow base 136 4 (.slice A (l.length+1) c) (l.length+1) ((l++[zan t]).flatMap tokC)) :
    PS w1.heap.size A c (l++[zan t]) 0 (-1) (w1.alloc (Obj.cells #[.slice A (l.length+1) c,.int .i64 0,.int .i64 (-1)] 134)):=by
  have hE:=zcR hw;have hlen:(l++[zan t]).length=l.length+1:=by simp
  refine ⟨?_,?_,by omega,by omega,fun j _ hk=>hE.last j hk,fun j => ?_⟩
  · have:=heap_alloc_new w1 (Obj.cells #[.slice A (l.length+1) c,.int .i64 0,.int .i64 (-1)] 134)
    rw [this]
    unfold zcU
    rw [hlen]
    rfl
  · rw [hlen]
    have h0:Rw TokC 4 w1 (fun b=>b<w1.heap.size) A (l.length+1) (l++[zan t]):=Rw.of_own (f:=tokC) (base:=base) (e := 136) (c:=c) ho hlen (fun _ _=>rfl) (fun _ _=>rfl) (fun b _ h=>h)
    exact h0.mono TokC.mono (fun b hb=>⟨by rw [World.size_alloc];omega,by omega⟩) (zab (zaa w1 _) fun b hb=>hb)
  · rcases zge (l:=l) (e:=zan t) j with ⟨k,hk,hk2,_⟩ | ⟨_,hk⟩ | ⟨_,hk⟩
    · rw [hk2]
      have hT:=hw k (List.mem_of_getElem? hk)
      rcases hT.kind with q | q | q
      · obtain ⟨h1,-,h3⟩:=hT.word q
        rw [h3]
        exact ⟨by decide,by unfold maxLen;omega⟩
      · obtain ⟨-,h2,h3,-,h5⟩:=hT.num q
        exact ⟨wf64 (by omega) (by omega),by unfold maxLen;omega⟩
      · obtain ⟨⟨s,h1,-⟩,h3⟩:=hT.sym q
        rw [h3,h1]
        exact ⟨by decide,by unfold maxLen;simp⟩
    · rw [hk];exact ⟨rfl,Nat.zero_le _⟩
    · rw [hk];exact ⟨by decide,by simp⟩
theorem zhM (t:List UInt8) (w:World) (hl:120<t.length) (hm:t.length≤maxLen):Calls Tryz.prog 48 #[.string ⟨t.toArray⟩] w (zbz (zaw t) w):=by
  have hp:zaw t=(.zero,0,4):=zbx (f:=0) (by unfold zbw;rw [if_pos hl]);have HPP:=Hi hp;clear hp;unfold maxLen at hm;have hmf:∀ (fn:Fn) (first cap:Array Value) (w:World),(Instr.makeFunc fn first cap).run Tryz.prog w = .ok (.func fn first cap) w:=fun _ _ _ _=>rfl
  have hR0:=Hi (zcz w);have hB0:=Hi (za3 w);have hP6:=Hi ((zcz w).put 0 0 [] Option.none 0 0 0 4);have hB6:=Hi (zdu (w:=(((w.alloc (Obj.cells #[.int .i64 0,.int .i64 0,.string ⟨#[]⟩,.slice Option.none 0 0] 48)).alloc (Obj.cells #[.int .i64 0] 3)).alloc (Obj.cells #[.int .i64 0] 28))) (g:=w.heap.size) 0 0 [] Option.none 0 0 0 4);generalize zaw t=r at *
  go_enter_defers Tryz.func48,Tryz.ntmps48
  go_wp2;refine leaves_cons (f := 75) (args := #[.pointer (some ⟨w.heap.size,0,none⟩),.pointer (some ⟨w.heap.size+1,0,none⟩),.pointer (some ⟨w.heap.size+2,0,none⟩)]) (by simp) (by simp [go_sem]) ?_
  refine (zez _ _ _ _).mono ?_
  rintro e' u' w9 ⟨rfl,rfl,rfl⟩
  have hend:=zcJ 0 4 HPP.out (zhZ w 4);simp [Leaves,settle,results,Tryz.results48,go_sem]
  exact hend
theorem zi8 (t:List UInt8) (w:World) (hl:¬ 120<t.length) (hw:Lw w) (a er:Int) (hT:za9 t = .error (a,er)):Calls Tryz.prog 48 #[.string ⟨t.toArray⟩] w (zbz (zaw t) w):=by
  have hp:zaw t=(.zero,a,er):=zbx (f:=0) (by unfold zbw;rw [if_neg hl,hT]);have HPP:=Hi hp;clear hp;have hmf:∀ (fn:Fn) (first cap:Array Value) (w:World),(Instr.makeFunc fn first cap).run Tryz.prog w = .ok (.func fn first cap) w:=fun _ _ _ _=>rfl
  have hR0:=Hi (zcz w);have hB0:=Hi (za3 w);have C1:=zbL t (by omega) (((w.alloc (Obj.cells #[.int .i64 0,.int .i64 0,.string ⟨#[]⟩,.slice Option.none 0 0] 48)).alloc (Obj.cells #[.int .i64 0] 3)).alloc (Obj.cells #[.int .i64 0] 28)) (hw.below (za3 w));rw [hT] at C1;have HC1:=Hi C1;clear C1 hw hT;generalize zaw t=r at *
  go_enter_defers Tryz.func48,Tryz.ntmps48
  go_wp2_with fail
  refine HC1.out.mono ?_
  rintro e' w1 ⟨rfl,hb1⟩
  have HR1:=Hi (hR0.out.below hb1);have HB1:=Hi (zac hB0.out hb1 hB0.out.size);clear hb1;refine leaves_cons (f := 75) (args := #[.pointer (some ⟨w.heap.size,0,none⟩),.pointer (some ⟨w.heap.size+1,0,none⟩),.pointer (some ⟨w.heap.size+2,0,none⟩)]) (by simp) (by simp [go_sem]) ?_
  refine (zbY w.heap.size a er _ _ _ _ _ _ _ _ _ HR1.out).mono ?_
  rintro e' u' w9 ⟨rfl,rfl,hrb,hbl⟩
  have HRB:=Hi hrb;have HBL:=Hi hbl;obtain ⟨⟨r0,r1,r2,r3,-,-,-,-⟩,⟨r4,-⟩,⟨r5,-⟩⟩:=hrb.cells;clear hrb hbl;have hend:=zcJ a er HPP.out (HB1.out.trans HBL.out);simp [Leaves,settle,zfj,results,Tryz.results48,go_sem,r0,r1,r2,r3,r4,r5]
  exact hend
theorem zi7 (t:List UInt8) (w:World) (hl:¬ 120<t.length) (hw:Lw w) (l:List Tok) (hT:za9 t = .ok l) (a er:Int) (hPL:pLev (l++[zan t]) 1000 .expr 0 (-1)=some (.error (a,er))):Calls Tryz.prog 48 #[.string ⟨t.toArray⟩] w (zbz (zaw t) w):=by
  have hp:zaw t=(.zero,a,er):=zbx (f:=1000) (by unfold zbw;rw [if_neg hl,hT];simp only [hPL]);have HPP:=Hi hp;clear hp;obtain ⟨hTW,hTL⟩:=zbu hT;have hmf:∀ (fn:Fn) (first cap:Array Value) (w:World),(Instr.makeFunc fn first cap).run Tryz.prog w = .ok (.func fn first cap) w:=fun _ _ _ _=>rfl
  have hR0:=Hi (zcz w);have hB0:=Hi (za3 w);have C1:=zbL t (by omega) (((w.alloc (Obj.cells #[.int .i64 0,.int .i64 0,.string ⟨#[]⟩,.slice Option.none 0 0] 48)).alloc (Obj.cells #[.int .i64 0] 3)).alloc (Obj.cells #[.int .i64 0] 28)) (hw.below (za3 w));rw [hT] at C1;have HC1:=Hi C1;have HTW:=Hi hTW;have hll:l.length≤120:=by omega
  clear C1 hw hT hTW hTL;generalize zaw t=r at *
  go_enter_defers Tryz.func48,Tryz.ntmps48
  go_wp2_with fail
  refine HC1.out.mono ?_
  rintro e' w1 ⟨A,c,rfl,hc,hcm,hown,hb1⟩
  have hPS:=zf2 HTW.out hll hown;have hs1:=hb1.size;simp only [World.size_alloc] at hs1;have HTR:=Hi (Rw.of_own (R:=TokC) (S:=fun b=>w.heap.size+3≤b∧b<w1.heap.size) (f:=tokC) hown (by simp) (fun _ _=>rfl) (fun _ _=>rfl) (fun b h1 h2=>⟨by simp only [World.size_alloc] at h1;omega,h2⟩));have CE:=(zhP 1000).1 0 (-1) _ _ hPS hPL;have HCE:=Hi CE;have HPS:=Hi hPS;have HR1:=Hi (hR0.out.below hb1);have HB1:=Hi (zac hB0.out hb1 hB0.out.size);have HRA:=Hi (HR1.out.below (zaa w1 (Obj.cells #[.slice A (l.length+1) c,.int .i64 0,.int .i64 (-1)] 134)));have HBA:=Hi (HB1.out.alloc HB1.out.size (Obj.cells #[.slice A (l.length+1) c,.int .i64 0,.int .i64 (-1)] 134));clear hown hb1 hPS CE hPL;go_wp2_with fail
  refine HCE.out.mono ?_
  rintro e' w2 ⟨rfl,hg2⟩
  have HR2:=Hi (HRA.out.grown hg2 (by intro h;injection h;omega) (by intro h;injection h;omega) (by intro h;injection h;omega));have HB2:=Hi (HBA.out.grown hg2 (by rw [World.size_alloc];omega) (fun b hb=>by injection hb;omega));clear hg2;refine leaves_cons (f := 75) (args := #[.pointer (some ⟨w.heap.size,0,none⟩),.pointer (some ⟨w.heap.size+1,0,none⟩),.pointer (some ⟨w.heap.size+2,0,none⟩)]) (by simp) (by simp [go_sem]) ?_
  refine (zbY w.heap.size a er _ _ _ _ _ _ _ _ _ HR2.out).mono ?_
  rintro e' u' w9 ⟨rfl,rfl,hrb,hbl⟩
  have HRB:=Hi hrb;have HBL:=Hi hbl;obtain ⟨⟨r0,r1,r2,r3,-,-,-,-⟩,⟨r4,-⟩,⟨r5,-⟩⟩:=hrb.cells;clear hrb hbl;have hend:=zcJ a er HPP.out (HB2.out.trans HBL.out);simp [Leaves,settle,zfj,results,Tryz.results48,go_sem,r0,r1,r2,r3,r4,r5]
  exact hend
theorem zhN (t:List UInt8) (w:World) (hl:¬ 120<t.length) (hw:Lw w) (l:List Tok) (hT:za9 t = .ok l) (x:Ex) (i:Nat) (late:Int) (hPL:pLev (l++[zan t]) 1000 .expr 0 (-1)=some (.ok (x,i,late))) (hk:(tk (l++[zan t]) i).kind≠0):Calls Tryz.prog 48 #[.string ⟨t.toArray⟩] w (zbz (zaw t) w):=by
  have hp:zaw t=(.zero,(tk (l++[zan t]) i).pos,6):=zbx (f:=1000) (by unfold zbw;rw [if_neg hl,hT];simp only [hPL];unfold endP;rw [if_pos hk]);have HPP:=Hi hp;clear hp;have HK:=Hi hk;clear hk;obtain ⟨hTW,hTL⟩:=zbu hT;have hmf:∀ (fn:Fn) (first cap:Array Value) (w:World),(Instr.makeFunc fn first cap).run Tryz.prog w = .ok (.func fn first cap) w:=fun _ _ _ _=>rfl
  have hR0:=Hi (zcz w);have hB0:=Hi (za3 w);have C1:=zbL t (by omega) (((w.alloc (Obj.cells #[.int .i64 0,.int .i64 0,.string ⟨#[]⟩,.slice Option.none 0 0] 48)).alloc (Obj.cells #[.int .i64 0] 3)).alloc (Obj.cells #[.int .i64 0] 28)) (hw.below (za3 w));rw [hT] at C1;have HC1:=Hi C1;have HTW:=Hi hTW;have hll:l.length≤120:=by omega
  clear C1 hw hT hTW hTL;generalize zaw t=r at *
  go_enter_defers Tryz.func48,Tryz.ntmps48
  go_wp2_with fail
  refine HC1.out.mono ?_
  rintro e' w1 ⟨A,c,rfl,hc,hcm,hown,hb1⟩
  have hPS:=zf2 HTW.out hll hown;have hs1:=hb1.size;simp only [World.size_alloc] at hs1;have HTR:=Hi (Rw.of_own (R:=TokC) (S:=fun b=>w.heap.size+3≤b∧b<w1.heap.size) (f:=tokC) hown (by simp) (fun _ _=>rfl) (fun _ _=>rfl) (fun b h1 h2=>⟨by simp only [World.size_alloc] at h1;omega,h2⟩));have CE:=(zhP 1000).1 0 (-1) _ _ hPS hPL;have HCE:=Hi CE;have HPS:=Hi hPS;have HR1:=Hi (hR0.out.below hb1);have HB1:=Hi (zac hB0.out hb1 hB0.out.size);have HRA:=Hi (HR1.out.below (zaa w1 (Obj.cells #[.slice A (l.length+1) c,.int .i64 0,.int .i64 (-1)] 134)));have HBA:=Hi (HB1.out.alloc HB1.out.size (Obj.cells #[.slice A (l.length+1) c,.int .i64 0,.int .i64 (-1)] 134));clear hown hb1 hPS CE hPL;go_wp2_with fail
  refine HCE.out.mono ?_
  rintro e' w2 ⟨op,n,nm,A1,c1,ks,hx,rfl,hc1,hm1,hp1,hr1,hl2,hi⟩
  have hx':=Hi hx;clear hx;unfold exV;have hs2:=hl2.1.size;simp only [World.size_alloc] at hs2;have R2:=HRA.out.grown hl2.1 (by intro h;injection h;omega) (by intro h;injection h;omega) (by intro h;injection h;omega);have HB2:=Hi (HBA.out.grown hl2.1 (by rw [World.size_alloc];omega) (fun b hb=>by injection hb;omega));obtain ⟨⟨x0,x1,x2,x3,z0,z1,z2,z3⟩,-,-⟩:=R2.cells;have HR2:=Hi R2;have HL2:=Hi hl2;have HX2:=Hi hr1;clear R2 hl2 hr1 HCE;go_wp2_with fail
  have hsz4:=zaz w2 w.heap.size (.int .i64 op) (.int .i64 n) (.string ⟨nm.toArray⟩) (.slice A1 ks.length c1);have hg4:=zaD w2 w.heap.size (.int .i64 op) (.int .i64 n) (.string ⟨nm.toArray⟩) (.slice A1 ks.length c1);have R3:=(zkp HR2.out op n nm A1 ks.length c1);have B3:=HB2.out.grown hg4 HB2.out.size (fun b hb=>by injection hb;omega)
  have P3:PS w1.heap.size A c (l++[zan t]) i late (set4 w2 w.heap.size (.int .i64 op) (.int .i64 n) (.string ⟨nm.toArray⟩) (.slice A1 ks.length c1)):=by
    refine ⟨(hg4.block _ HL2.out.lt (fun q=>by injection q;omega)).trans HL2.out.2,?_,hi,HPS.out.le,HPS.out.last,HPS.out.fit⟩
    have e1:(l++[zan t]).length=l.length+1:=by simp
    rw [e1];refine HTR.out.mono TokC.mono (fun b hb=>⟨by omega,by omega⟩) (((zab (zaa w1 _) fun b hb=>hb.2).trans (zah HL2.out.1 fun b hb=>⟨by simp only [World.size_alloc];omega,fun q=>by injection q;omega⟩)).trans (zah hg4 fun b hb=>⟨by omega,fun q=>by injection q;omega⟩))
  have X3:Rw ExV 4 (set4 w2 w.heap.size (.int .i64 op) (.int .i64 n) (.string ⟨nm.toArray⟩) (.slice A1 ks.length c1)) (fun b=>w.heap.size+3≤b∧b<w2.heap.size) A1 ks.length ks:=
    HX2.out.mono ExV.mono (fun b hb=>⟨by have:=hb.1;simp only [World.size_alloc] at this;omega,hb.2⟩) (zah hg4 fun b hb=>⟨hb.2,fun q=>by have:=hb.1;simp only [World.size_alloc] at this;injection q;omega⟩)
  have C3:=zcc P3;unfold zdC at C3
  change Calls _ _ _ (set4 w2 w.heap.size (.int .i64 op) (.int .i64 n) (.string ⟨nm.toArray⟩) (.slice A1 ks.length c1)) _
  generalize set4 w2 w.heap.size (.int .i64 op) (.int .i64 n) (.string ⟨nm.toArray⟩) (.slice A1 ks.length c1)=W3 at *;clear hg4;obtain ⟨tt,htt⟩:∃ tt,tk (l++[zan t]) i=tt:=⟨_,rfl⟩;rw [htt] at C3 HPP HK;have HC3:=Hi C3;have HR3:=Hi R3;have HB3:=Hi B3;have HP3:=Hi P3;have HX3:=Hi X3;clear C3 R3 B3 P3 X3 htt HR1 HB1 HRA HBA HR2 HB2 HL2 HX2 HTR HPS hR0 hB0 HTW x0 x1 x2 x3 z0 z1 z2 z3;refine HC3.out.mono ?_
  rintro e' w4 ⟨rfl,hb4⟩
  unfold tokV;have hs4:=hb4.size;have hbT:=zaa w4 (Obj.cells #[.int .i64 tt.kind,.string ⟨tt.text.toArray⟩,.int .i64 tt.pos,.int .i64 tt.n] 136);have R5:=(HR3.out.below hb4).below hbT;have P5:=(HP3.out.below hb4).below hbT;have HB5:=Hi ((HB3.out.trans (hb4.mono HB3.out.size)).alloc (by omega) (Obj.cells #[.int .i64 tt.kind,.string ⟨tt.text.toArray⟩,.int .i64 tt.pos,.int .i64 tt.n] 136));have HX5:=Hi (HX3.out.mono ExV.mono (fun b hb=>hb) ((zab hb4 fun b hb=>by omega).trans (zab hbT fun b hb=>by omega)));obtain ⟨⟨x0,x1,x2,x3,z0,z1,z2,z3⟩,⟨y0,y1⟩,⟨v0,v1⟩⟩:=(HR3.out.below hb4).cells;obtain ⟨-,-,p2,-,-⟩:=(HP3.out.below hb4).cells;have hpl:=(HP3.out.below hb4).ltp;have hgl:=R5.lt;have hgl4:=(HR3.out.below hb4).lt;have hgl0:w.heap.size<w4.heap.size:=by omega
  have HR5:=Hi R5;have HPS5:=Hi P5;clear hb4 hbT R5 P5 HC3 HR3 HB3 HX3 HP3;have k1:(tt.kind != 0)=true:=by have:=HK.out;simp [this]
  go_wp2;refine leaves_cons (f := 75) (args := #[.pointer (some ⟨w.heap.size,0,none⟩),.pointer (some ⟨w.heap.size+1,0,none⟩),.pointer (some ⟨w.heap.size+2,0,none⟩)]) (by simp) (by simp [go_sem]) ?_
  refine (zbY w.heap.size tt.pos 6 _ _ _ _ _ _ _ _ _ HR5.out).mono ?_
  rintro e' u' w9 ⟨rfl,rfl,hrb,hbl⟩
  have HRB:=Hi hrb;have HBL:=Hi hbl;obtain ⟨⟨r0,r1,r2,r3,-,-,-,-⟩,⟨r4,-⟩,⟨r5,-⟩⟩:=hrb.cells;clear hrb hbl;have hend:=zcJ tt.pos 6 HPP.out (HB5.out.trans HBL.out);simp [Leaves,settle,zfj,results,Tryz.results48,go_sem,r0,r1,r2,r3,r4,r5]
  exact hend
theorem zhL (t:List UInt8) (w:World) (hl:¬ 120<t.length) (hw:Lw w) (l:List Tok) (hT:za9 t = .ok l) (x:Ex) (i:Nat) (late:Int) (hPL:pLev (l++[zan t]) 1000 .expr 0 (-1)=some (.ok (x,i,late))) (hk:(tk (l++[zan t]) i).kind=0) (hla:0≤late):Calls Tryz.prog 48 #[.string ⟨t.toArray⟩] w (zbz (zaw t) w):=by
  have hp:zaw t=(.zero,late,2):=zbx (f:=1000) (by unfold zbw;rw [if_neg hl,hT];simp only [hPL];unfold endP;rw [if_neg (by simp [hk]),if_pos hla]);have HPP:=Hi hp;clear hp;have HK:=Hi hk;clear hk;obtain ⟨hTW,hTL⟩:=zbu hT;have hmf:∀ (fn:Fn) (first cap:Array Value) (w:World),(Instr.makeFunc fn first cap).run Tryz.prog w = .ok (.func fn first cap) w:=fun _ _ _ _=>rfl
  have hR0:=Hi (zcz w);have hB0:=Hi (za3 w);have C1:=zbL t (by omega) (((w.alloc (Obj.cells #[.int .i64 0,.int .i64 0,.string ⟨#[]⟩,.slice Option.none 0 0] 48)).alloc (Obj.cells #[.int .i64 0] 3)).alloc (Obj.cells #[.int .i64 0] 28)) (hw.below (za3 w));rw [hT] at C1;have HC1:=Hi C1;have HTW:=Hi hTW;have hll:l.length≤120:=by omega
  clear C1 hw hT hTW hTL;generalize zaw t=r at *
  go_enter_defers Tryz.func48,Tryz.ntmps48
  go_wp2_with fail
  refine HC1.out.mono ?_
  rintro e' w1 ⟨A,c,rfl,hc,hcm,hown,hb1⟩
  have hPS:=zf2 HTW.out hll hown;have hs1:=hb1.size;simp only [World.size_alloc] at hs1;have HTR:=Hi (Rw.of_own (R:=TokC) (S:=fun b=>w.heap.size+3≤b∧b<w1.heap.size) (f:=tokC) hown (by simp) (fun _ _=>rfl) (fun _ _=>rfl) (fun b h1 h2=>⟨by simp only [World.size_alloc] at h1;omega,h2⟩));have CE:=(zhP 1000).1 0 (-1) _ _ hPS hPL;have HCE:=Hi CE;have HPS:=Hi hPS;have HR1:=Hi (hR0.out.below hb1);have HB1:=Hi (zac hB0.out hb1 hB0.out.size);have HRA:=Hi (HR1.out.below (zaa w1 (Obj.cells #[.slice A (l.length+1) c,.int .i64 0,.int .i64 (-1)] 134)));have HBA:=Hi (HB1.out.alloc HB1.out.size (Obj.cells #[.slice A (l.length+1) c,.int .i64 0,.int .i64 (-1)] 134));clear hown hb1 hPS CE hPL;go_wp2_with fail
  refine HCE.out.mono ?_
  rintro e' w2 ⟨op,n,nm,A1,c1,ks,hx,rfl,hc1,hm1,hp1,hr1,hl2,hi⟩
  have hx':=Hi hx;clear hx;unfold exV;have hs2:=hl2.1.size;simp only [World.size_alloc] at hs2;have R2:=HRA.out.grown hl2.1 (by intro h;injection h;omega) (by intro h;injection h;omega) (by intro h;injection h;omega);have HB2:=Hi (HBA.out.grown hl2.1 (by rw [World.size_alloc];omega) (fun b hb=>by injection hb;omega));obtain ⟨⟨x0,x1,x2,x3,z0,z1,z2,z3⟩,-,-⟩:=R2.cells;have HR2:=Hi R2;have HL2:=Hi hl2;have HX2:=Hi hr1;clear R2 hl2 hr1 HCE;go_wp2_with fail
  have hsz4:=zaz w2 w.heap.size (.int .i64 op) (.int .i64 n) (.string ⟨nm.toArray⟩) (.slice A1 ks.length c1);have hg4:=zaD w2 w.heap.size (.int .i64 op) (.int .i64 n) (.string ⟨nm.toArray⟩) (.slice A1 ks.length c1);have R3:=(zkp HR2.out op n nm A1 ks.length c1);have B3:=HB2.out.grown hg4 HB2.out.size (fun b hb=>by injection hb;omega)
  have P3:PS w1.heap.size A c (l++[zan t]) i late (set4 w2 w.heap.size (.int .i64 op) (.int .i64 n) (.string ⟨nm.toArray⟩) (.slice A1 ks.length c1)):=by
    refine ⟨(hg4.block _ HL2.out.lt (fun q=>by injection q;omega)).trans HL2.out.2,?_,hi,HPS.out.le,HPS.out.last,HPS.out.fit⟩
    have e1:(l++[zan t]).length=l.length+1:=by simp
    rw [e1];refine HTR.out.mono TokC.mono (fun b hb=>⟨by omega,by omega⟩) (((zab (zaa w1 _) fun b hb=>hb.2).trans (zah HL2.out.1 fun b hb=>⟨by simp only [World.size_alloc];omega,fun q=>by injection q;omega⟩)).trans (zah hg4 fun b hb=>⟨by omega,fun q=>by injection q;omega⟩))
  have X3:Rw ExV 4 (set4 w2 w.heap.size (.int .i64 op) (.int .i64 n) (.string ⟨nm.toArray⟩) (.slice A1 ks.length c1)) (fun b=>w.heap.size+3≤b∧b<w2.heap.size) A1 ks.length ks:=
    HX2.out.mono ExV.mono (fun b hb=>⟨by have:=hb.1;simp only [World.size_alloc] at this;omega,hb.2⟩) (zah hg4 fun b hb=>⟨hb.2,fun q=>by have:=hb.1;simp only [World.size_alloc] at this;injection q;omega⟩)
  have C3:=zcc P3;unfold zdC at C3
  change Calls _ _ _ (set4 w2 w.heap.size (.int .i64 op) (.int .i64 n) (.string ⟨nm.toArray⟩) (.slice A1 ks.length c1)) _
  generalize set4 w2 w.heap.size (.int .i64 op) (.int .i64 n) (.string ⟨nm.toArray⟩) (.slice A1 ks.length c1)=W3 at *;clear hg4;obtain ⟨tt,htt⟩:∃ tt,tk (l++[zan t]) i=tt:=⟨_,rfl⟩;rw [htt] at C3 HK;have HC3:=Hi C3;have HR3:=Hi R3;have HB3:=Hi B3;have HP3:=Hi P3;have HX3:=Hi X3;clear C3 R3 B3 P3 X3 htt HR1 HB1 HRA HBA HR2 HB2 HL2 HX2 HTR HPS hR0 hB0 HTW x0 x1 x2 x3 z0 z1 z2 z3;refine HC3.out.mono ?_
  rintro e' w4 ⟨rfl,hb4⟩
  unfold tokV;have hs4:=hb4.size;have hbT:=zaa w4 (Obj.cells #[.int .i64 tt.kind,.string ⟨tt.text.toArray⟩,.int .i64 tt.pos,.int .i64 tt.n] 136);have R5:=(HR3.out.below hb4).below hbT;have P5:=(HP3.out.below hb4).below hbT;have HB5:=Hi ((HB3.out.trans (hb4.mono HB3.out.size)).alloc (by omega) (Obj.cells #[.int .i64 tt.kind,.string ⟨tt.text.toArray⟩,.int .i64 tt.pos,.int .i64 tt.n] 136));have HX5:=Hi (HX3.out.mono ExV.mono (fun b hb=>hb) ((zab hb4 fun b hb=>by omega).trans (zab hbT fun b hb=>by omega)));obtain ⟨⟨x0,x1,x2,x3,z0,z1,z2,z3⟩,⟨y0,y1⟩,⟨v0,v1⟩⟩:=(HR3.out.below hb4).cells;obtain ⟨-,-,p2,-,-⟩:=(HP3.out.below hb4).cells;have hpl:=(HP3.out.below hb4).ltp;have hgl:=R5.lt;have hgl4:=(HR3.out.below hb4).lt;have hgl0:w.heap.size<w4.heap.size:=by omega
  have HR5:=Hi R5;have HPS5:=Hi P5;clear hb4 hbT R5 P5 HC3 HR3 HB3 HX3 HP3;have k1:(tt.kind != 0)=false:=by have:=HK.out;simp [this]
  have k2:decide (0≤late)=true:=by simpa using hla
  go_wp2;refine leaves_cons (f := 75) (args := #[.pointer (some ⟨w.heap.size,0,none⟩),.pointer (some ⟨w.heap.size+1,0,none⟩),.pointer (some ⟨w.heap.size+2,0,none⟩)]) (by simp) (by simp [go_sem]) ?_
  refine (zbY w.heap.size late 2 _ _ _ _ _ _ _ _ _ HR5.out).mono ?_
  rintro e' u' w9 ⟨rfl,rfl,hrb,hbl⟩
  have HRB:=Hi hrb;have HBL:=Hi hbl;obtain ⟨⟨r0,r1,r2,r3,-,-,-,-⟩,⟨r4,-⟩,⟨r5,-⟩⟩:=hrb.cells;clear hrb hbl;have hend:=zcJ late 2 HPP.out (HB5.out.trans HBL.out);simp [Leaves,settle,zfj,results,Tryz.results48,go_sem,r0,r1,r2,r3,r4,r5]
  exact hend
theorem zi6 (t:List UInt8) (w:World) (hl:¬ 120<t.length) (hw:Lw w) (l:List Tok) (hT:za9 t = .ok l) (x:Ex) (i:Nat) (late:Int) (hPL:pLev (l++[zan t]) 1000 .expr 0 (-1)=some (.ok (x,i,late))) (hk:(tk (l++[zan t]) i).kind=0) (hla:¬ 0≤late) (hv:zaR x=false):Calls Tryz.prog 48 #[.string ⟨t.toArray⟩] w (zbz (zaw t) w):=by
  have hp:zaw t=(.zero,0,17):=zbx (f:=1000) (by unfold zbw;rw [if_neg hl,hT];simp only [hPL];unfold endP;rw [if_neg (by simp [hk]),if_neg hla,if_neg (by simp [hv])]);have HPP:=Hi hp;clear hp;have HK:=Hi hk;have HV:=Hi hv;clear hk hv;obtain ⟨hTW,hTL⟩:=zbu hT;have hmf:∀ (fn:Fn) (first cap:Array Value) (w:World),(Instr.makeFunc fn first cap).run Tryz.prog w = .ok (.func fn first cap) w:=fun _ _ _ _=>rfl
  have hR0:=Hi (zcz w);have hB0:=Hi (za3 w);have C1:=zbL t (by omega) (((w.alloc (Obj.cells #[.int .i64 0,.int .i64 0,.string ⟨#[]⟩,.slice Option.none 0 0] 48)).alloc (Obj.cells #[.int .i64 0] 3)).alloc (Obj.cells #[.int .i64 0] 28)) (hw.below (za3 w));rw [hT] at C1;have HC1:=Hi C1;have HTW:=Hi hTW;have hll:l.length≤120:=by omega
  clear C1 hw hT hTW hTL;generalize zaw t=r at *
  go_enter_defers Tryz.func48,Tryz.ntmps48
  go_wp2_with fail
  refine HC1.out.mono ?_
  rintro e' w1 ⟨A,c,rfl,hc,hcm,hown,hb1⟩
  have hPS:=zf2 HTW.out hll hown;have hs1:=hb1.size;simp only [World.size_alloc] at hs1;have HTR:=Hi (Rw.of_own (R:=TokC) (S:=fun b=>w.heap.size+3≤b∧b<w1.heap.size) (f:=tokC) hown (by simp) (fun _ _=>rfl) (fun _ _=>rfl) (fun b h1 h2=>⟨by simp only [World.size_alloc] at h1;omega,h2⟩));have CE:=(zhP 1000).1 0 (-1) _ _ hPS hPL;have HCE:=Hi CE;have HPS:=Hi hPS;have HR1:=Hi (hR0.out.below hb1);have HB1:=Hi (zac hB0.out hb1 hB0.out.size);have HRA:=Hi (HR1.out.below (zaa w1 (Obj.cells #[.slice A (l.length+1) c,.int .i64 0,.int .i64 (-1)] 134)));have HBA:=Hi (HB1.out.alloc HB1.out.size (Obj.cells #[.slice A (l.length+1) c,.int .i64 0,.int .i64 (-1)] 134));clear hown hb1 hPS CE hPL;go_wp2_with fail
  refine HCE.out.mono ?_
  rintro e' w2 ⟨op,n,nm,A1,c1,ks,hx,rfl,hc1,hm1,hp1,hr1,hl2,hi⟩
  have hx':=Hi hx;clear hx;unfold exV;have hs2:=hl2.1.size;simp only [World.size_alloc] at hs2;have R2:=HRA.out.grown hl2.1 (by intro h;injection h;omega) (by intro h;injection h;omega) (by intro h;injection h;omega);have HB2:=Hi (HBA.out.grown hl2.1 (by rw [World.size_alloc];omega) (fun b hb=>by injection hb;omega));obtain ⟨⟨x0,x1,x2,x3,z0,z1,z2,z3⟩,-,-⟩:=R2.cells;have HR2:=Hi R2;have HL2:=Hi hl2;have HX2:=Hi hr1;clear R2 hl2 hr1 HCE;go_wp2_with fail
  have hsz4:=zaz w2 w.heap.size (.int .i64 op) (.int .i64 n) (.string ⟨nm.toArray⟩) (.slice A1 ks.length c1);have hg4:=zaD w2 w.heap.size (.int .i64 op) (.int .i64 n) (.string ⟨nm.toArray⟩) (.slice A1 ks.length c1);have R3:=(zkp HR2.out op n nm A1 ks.length c1);have B3:=HB2.out.grown hg4 HB2.out.size (fun b hb=>by injection hb;omega)
  have P3:PS w1.heap.size A c (l++[zan t]) i late (set4 w2 w.heap.size (.int .i64 op) (.int .i64 n) (.string ⟨nm.toArray⟩) (.slice A1 ks.length c1)):=by
    refine ⟨(hg4.block _ HL2.out.lt (fun q=>by injection q;omega)).trans HL2.out.2,?_,hi,HPS.out.le,HPS.out.last,HPS.out.fit⟩
    have e1:(l++[zan t]).length=l.length+1:=by simp
    rw [e1];refine HTR.out.mono TokC.mono (fun b hb=>⟨by omega,by omega⟩) (((zab (zaa w1 _) fun b hb=>hb.2).trans (zah HL2.out.1 fun b hb=>⟨by simp only [World.size_alloc];omega,fun q=>by injection q;omega⟩)).trans (zah hg4 fun b hb=>⟨by omega,fun q=>by injection q;omega⟩))
  have X3:Rw ExV 4 (set4 w2 w.heap.size (.int .i64 op) (.int .i64 n) (.string ⟨nm.toArray⟩) (.slice A1 ks.length c1)) (fun b=>w.heap.size+3≤b∧b<w2.heap.size) A1 ks.length ks:=
    HX2.out.mono ExV.mono (fun b hb=>⟨by have:=hb.1;simp only [World.size_alloc] at this;omega,hb.2⟩) (zah hg4 fun b hb=>⟨hb.2,fun q=>by have:=hb.1;simp only [World.size_alloc] at this;injection q;omega⟩)
  have C3:=zcc P3;unfold zdC at C3
  change Calls _ _ _ (set4 w2 w.heap.size (.int .i64 op) (.int .i64 n) (.string ⟨nm.toArray⟩) (.slice A1 ks.length c1)) _
  generalize set4 w2 w.heap.size (.int .i64 op) (.int .i64 n) (.string ⟨nm.toArray⟩) (.slice A1 ks.length c1)=W3 at *;clear hg4;obtain ⟨tt,htt⟩:∃ tt,tk (l++[zan t]) i=tt:=⟨_,rfl⟩;rw [htt] at C3 HK;have HC3:=Hi C3;have HR3:=Hi R3;have HB3:=Hi B3;have HP3:=Hi P3;have HX3:=Hi X3;clear C3 R3 B3 P3 X3 htt HR1 HB1 HRA HBA HR2 HB2 HL2 HX2 HTR HPS hR0 hB0 HTW x0 x1 x2 x3 z0 z1 z2 z3;refine HC3.out.mono ?_
  rintro e' w4 ⟨rfl,hb4⟩
  unfold tokV;have hs4:=hb4.size;have hbT:=zaa w4 (Obj.cells #[.int .i64 tt.kind,.string ⟨tt.text.toArray⟩,.int .i64 tt.pos,.int .i64 tt.n] 136);have R5:=(HR3.out.below hb4).below hbT;have P5:=(HP3.out.below hb4).below hbT;have HB5:=Hi ((HB3.out.trans (hb4.mono HB3.out.size)).alloc (by omega) (Obj.cells #[.int .i64 tt.kind,.string ⟨tt.text.toArray⟩,.int .i64 tt.pos,.int .i64 tt.n] 136));have HX5:=Hi (HX3.out.mono ExV.mono (fun b hb=>hb) ((zab hb4 fun b hb=>by omega).trans (zab hbT fun b hb=>by omega)));obtain ⟨⟨x0,x1,x2,x3,z0,z1,z2,z3⟩,⟨y0,y1⟩,⟨v0,v1⟩⟩:=(HR3.out.below hb4).cells;obtain ⟨-,-,p2,-,-⟩:=(HP3.out.below hb4).cells;have hpl:=(HP3.out.below hb4).ltp;have hgl:=R5.lt;have hgl4:=(HR3.out.below hb4).lt;have hgl0:w.heap.size<w4.heap.size:=by omega
  have HR5:=Hi R5;have HPS5:=Hi P5;clear hb4 hbT R5 P5 HC3 HR3 HB3 HX3 HP3;have k1:(tt.kind != 0)=false:=by have:=HK.out;simp [this]
  have k2:decide (0≤late)=false:=by simpa using hla
  have hvx:=HV.out;rw [hx'.out] at hvx;have C5:=zfp op n nm A1 c1 ks _ hc1 hm1 hp1 (HX5.out.mono ExV.mono (fun b hb=>by rw [World.size_alloc];omega) (KeepOn.refl _ _));rw [hvx] at C5;unfold exV at C5;have HC5:=Hi C5;clear C5 hvx;go_wp2_with fail
  refine HC5.out.mono ?_
  rintro e' w6 ⟨rfl,hb6⟩
  have hs6:=hb6.size;simp only [World.size_alloc] at hs6;have R6:=HR5.out.below hb6;have HB6:=Hi (HB5.out.trans (hb6.mono (by rw [World.size_alloc];omega)));have HR6:=Hi R6;clear R6 hb6;go_wp2;refine leaves_cons (f := 75) (args := #[.pointer (some ⟨w.heap.size,0,none⟩),.pointer (some ⟨w.heap.size+1,0,none⟩),.pointer (some ⟨w.heap.size+2,0,none⟩)]) (by simp) (by simp [go_sem]) ?_
  refine (zbY w.heap.size 0 17 _ _ _ _ _ _ _ _ _ HR6.out).mono ?_
  rintro e' u' w9 ⟨rfl,rfl,hrb,hbl⟩
  have HRB:=Hi hrb;have HBL:=Hi hbl;obtain ⟨⟨r0,r1,r2,r3,-,-,-,-⟩,⟨r4,-⟩,⟨r5,-⟩⟩:=hrb.cells;clear hrb hbl;have hend:=zcJ 0 17 HPP.out (HB6.out.trans HBL.out);simp [Leaves,settle,zfj,results,Tryz.results48,go_sem,r0,r1,r2,r3,r4,r5]
  exact hend
theorem zkh (t:List UInt8) (w:World) (hl:¬ 120<t.length) (hw:Lw w) (l:List Tok) (hT:za9 t = .ok l) (x:Ex) (i:Nat) (late:Int) (hPL:pLev (l++[zan t]) 1000 .expr 0 (-1)=some (.ok (x,i,late))) (hk:(tk (l++[zan t]) i).kind=0) (hla:¬ 0≤late) (hv:zaR x=true):Calls Tryz.prog 48 #[.string ⟨t.toArray⟩] w (zbz (zaw t) w):=by
  have hp:zaw t=(x,0,0):=zbx (f:=1000) (by unfold zbw;rw [if_neg hl,hT];simp only [hPL];unfold endP;rw [if_neg (by simp [hk]),if_neg hla,if_pos hv]);have HPP:=Hi hp;clear hp;have HK:=Hi hk;have HV:=Hi hv;clear hk hv;obtain ⟨hTW,hTL⟩:=zbu hT;have hmf:∀ (fn:Fn) (first cap:Array Value) (w:World),(Instr.makeFunc fn first cap).run Tryz.prog w = .ok (.func fn first cap) w:=fun _ _ _ _=>rfl
  have hR0:=Hi (zcz w);have hB0:=Hi (za3 w);have C1:=zbL t (by omega) (((w.alloc (Obj.cells #[.int .i64 0,.int .i64 0,.string ⟨#[]⟩,.slice Option.none 0 0] 48)).alloc (Obj.cells #[.int .i64 0] 3)).alloc (Obj.cells #[.int .i64 0] 28)) (hw.below (za3 w));rw [hT] at C1;have HC1:=Hi C1;have HTW:=Hi hTW;have hll:l.length≤120:=by omega
  clear C1 hw hT hTW hTL;generalize zaw t=r at *
  go_enter_defers Tryz.func48,Tryz.ntmps48
  go_wp2_with fail
  refine HC1.out.mono ?_
  rintro e' w1 ⟨A,c,rfl,hc,hcm,hown,hb1⟩
  have hPS:=zf2 HTW.out hll hown;have hs1:=hb1.size;simp only [World.size_alloc] at hs1;have HTR:=Hi (Rw.of_own (R:=TokC) (S:=fun b=>w.heap.size+3≤b∧b<w1.heap.size) (f:=tokC) hown (by simp) (fun _ _=>rfl) (fun _ _=>rfl) (fun b h1 h2=>⟨by simp only [World.size_alloc] at h1;omega,h2⟩));have CE:=(zhP 1000).1 0 (-1) _ _ hPS hPL;have HCE:=Hi CE;have HPS:=Hi hPS;have HR1:=Hi (hR0.out.below hb1);have HB1:=Hi (zac hB0.out hb1 hB0.out.size);have HRA:=Hi (HR1.out.below (zaa w1 (Obj.cells #[.slice A (l.length+1) c,.int .i64 0,.int .i64 (-1)] 134)));have HBA:=Hi (HB1.out.alloc HB1.out.size (Obj.cells #[.slice A (l.length+1) c,.int .i64 0,.int .i64 (-1)] 134));clear hown hb1 hPS CE hPL;go_wp2_with fail
  refine HCE.out.mono ?_
  rintro e' w2 ⟨op,n,nm,A1,c1,ks,hx,rfl,hc1,hm1,hp1,hr1,hl2,hi⟩
  have hx':=Hi hx;clear hx;unfold exV;have hs2:=hl2.1.size;simp only [World.size_alloc] at hs2;have R2:=HRA.out.grown hl2.1 (by intro h;injection h;omega) (by intro h;injection h;omega) (by intro h;injection h;omega);have HB2:=Hi (HBA.out.grown hl2.1 (by rw [World.size_alloc];omega) (fun b hb=>by injection hb;omega));obtain ⟨⟨x0,x1,x2,x3,z0,z1,z2,z3⟩,-,-⟩:=R2.cells;have HR2:=Hi R2;have HL2:=Hi hl2;have HX2:=Hi hr1;clear R2 hl2 hr1 HCE;go_wp2_with fail
  have hsz4:=zaz w2 w.heap.size (.int .i64 op) (.int .i64 n) (.string ⟨nm.toArray⟩) (.slice A1 ks.length c1);have hg4:=zaD w2 w.heap.size (.int .i64 op) (.int .i64 n) (.string ⟨nm.toArray⟩) (.slice A1 ks.length c1);have R3:=(zkp HR2.out op n nm A1 ks.length c1);have B3:=HB2.out.grown hg4 HB2.out.size (fun b hb=>by injection hb;omega)
  have P3:PS w1.heap.size A c (l++[zan t]) i late (set4 w2 w.heap.size (.int .i64 op) (.int .i64 n) (.string ⟨nm.toArray⟩) (.slice A1 ks.length c1)):=by
    refine ⟨(hg4.block _ HL2.out.lt (fun q=>by injection q;omega)).trans HL2.out.2,?_,hi,HPS.out.le,HPS.out.last,HPS.out.fit⟩
    have e1:(l++[zan t]).length=l.length+1:=by simp
    rw [e1];refine HTR.out.mono TokC.mono (fun b hb=>⟨by omega,by omega⟩) (((zab (zaa w1 _) fun b hb=>hb.2).trans (zah HL2.out.1 fun b hb=>⟨by simp only [World.size_alloc];omega,fun q=>by injection q;omega⟩)).trans (zah hg4 fun b hb=>⟨by omega,fun q=>by injection q;omega⟩))
  have X3:Rw ExV 4 (set4 w2 w.heap.size (.int .i64 op) (.int .i64 n) (.string ⟨nm.toArray⟩) (.slice A1 ks.length c1)) (fun b=>w.heap.size+3≤b∧b<w2.heap.size) A1 ks.length ks:=
    HX2.out.mono ExV.mono (fun b hb=>⟨by have:=hb.1;simp only [World.size_alloc] at this;omega,hb.2⟩) (zah hg4 fun b hb=>⟨hb.2,fun q=>by have:=hb.1;simp only [World.size_alloc] at this;injection q;omega⟩)
  have C3:=zcc P3;unfold zdC at C3
  change Calls _ _ _ (set4 w2 w.heap.size (.int .i64 op) (.int .i64 n) (.string ⟨nm.toArray⟩) (.slice A1 ks.length c1)) _
  generalize set4 w2 w.heap.size (.int .i64 op) (.int .i64 n) (.string ⟨nm.toArray⟩) (.slice A1 ks.length c1)=W3 at *;clear hg4;obtain ⟨tt,htt⟩:∃ tt,tk (l++[zan t]) i=tt:=⟨_,rfl⟩;rw [htt] at C3 HK;have HC3:=Hi C3;have HR3:=Hi R3;have HB3:=Hi B3;have HP3:=Hi P3;have HX3:=Hi X3;clear C3 R3 B3 P3 X3 htt HR1 HB1 HRA HBA HR2 HB2 HL2 HX2 HTR HPS hR0 hB0 HTW x0 x1 x2 x3 z0 z1 z2 z3;refine HC3.out.mono ?_
  rintro e' w4 ⟨rfl,hb4⟩
  unfold tokV;have hs4:=hb4.size;have hbT:=zaa w4 (Obj.cells #[.int .i64 tt.kind,.string ⟨tt.text.toArray⟩,.int .i64 tt.pos,.int .i64 tt.n] 136);have R5:=(HR3.out.below hb4).below hbT;have P5:=(HP3.out.below hb4).below hbT;have HB5:=Hi ((HB3.out.trans (hb4.mono HB3.out.size)).alloc (by omega) (Obj.cells #[.int .i64 tt.kind,.string ⟨tt.text.toArray⟩,.int .i64 tt.pos,.int .i64 tt.n] 136));have HX5:=Hi (HX3.out.mono ExV.mono (fun b hb=>hb) ((zab hb4 fun b hb=>by omega).trans (zab hbT fun b hb=>by omega)));obtain ⟨⟨x0,x1,x2,x3,z0,z1,z2,z3⟩,⟨y0,y1⟩,⟨v0,v1⟩⟩:=(HR3.out.below hb4).cells;obtain ⟨-,-,p2,-,-⟩:=(HP3.out.below hb4).cells;have hpl:=(HP3.out.below hb4).ltp;have hgl:=R5.lt;have hgl4:=(HR3.out.below hb4).lt;have hgl0:w.heap.size<w4.heap.size:=by omega
  have HR5:=Hi R5;have HPS5:=Hi P5;clear hb4 hbT R5 P5 HC3 HR3 HB3 HX3 HP3;have k1:(tt.kind != 0)=false:=by have:=HK.out;simp [this]
  have k2:decide (0≤late)=false:=by simpa using hla
  have hvx:=HV.out;rw [hx'.out] at hvx;have C5:=zfp op n nm A1 c1 ks _ hc1 hm1 hp1 (HX5.out.mono ExV.mono (fun b hb=>by rw [World.size_alloc];omega) (KeepOn.refl _ _));rw [hvx] at C5;unfold exV at C5;have HC5:=Hi C5;clear C5 hvx;go_wp2_with fail
  refine HC5.out.mono ?_
  rintro e' w6 ⟨rfl,hb6⟩
  have hs6:=hb6.size;simp only [World.size_alloc] at hs6;have R6:=HR5.out.below hb6;have HB6:=Hi (HB5.out.trans (hb6.mono (by rw [World.size_alloc];omega)));clear x0 x1 x2 x3 z0 z1 z2 z3 y0 y1 v0 v1;obtain ⟨⟨x0,x1,x2,x3,z0,z1,z2,z3⟩,⟨y0,y1⟩,⟨v0,v1⟩⟩:=R6.cells;have HP6:=Hi (R6.put op n nm A1 ks.length c1 0 0);have hput:=zdu (w:=w6) (g:=w.heap.size) op n nm A1 ks.length c1 0 0;have HB7:=Hi (HB6.out.trans hput);have HX7:=Hi (HX5.out.mono ExV.mono (S':=fun b=>w.heap.size+3≤b∧b<w6.heap.size) (fun b hb=>by omega) ((zab hb6 fun b hb=>by rw [World.size_alloc];omega).trans (zhz w6 w.heap.size op n nm A1 ks.length c1 0 0 fun b hb=>by omega)));have hps:=zjg w6 w.heap.size op n nm A1 ks.length c1 0 0;have HPZ:=Hi hps;clear R6 hb6 hput hps;go_wp2;refine leaves_cons (f := 75) (args := #[.pointer (some ⟨w.heap.size,0,none⟩),.pointer (some ⟨w.heap.size+1,0,none⟩),.pointer (some ⟨w.heap.size+2,0,none⟩)]) (by simp) (by simp [go_sem]) ?_
  refine (zez _ _ _ _).mono ?_
  rintro e' u' w9 ⟨rfl,rfl,rfl⟩
  change Leaves _ _ _ _ _ _ (put6 w6 w.heap.size op n nm A1 ks.length c1 0 0)
  obtain ⟨⟨r0,r1,r2,r3,-,-,-,-⟩,⟨r4,-⟩,⟨r5,-⟩⟩:=HP6.out.cells
  have hend:zbz r w (.returned (.tuple #[.agg #[.int .i64 op,.int .i64 n,.string ⟨nm.toArray⟩,.slice A1 ks.length c1],.int .i64 0,.int .i64 0])) (put6 w6 w.heap.size op n nm A1 ks.length c1 0 0):=
    ⟨op,n,nm,A1,c1,ks,by rw [HPP.out];exact hx'.out,by rw [HPP.out];rfl,hc1,hm1,hp1,HX7.out.mono ExV.mono (fun b hb=>⟨by omega,by rw [HPZ.out];exact hb.2⟩) (KeepOn.refl _ _),HB7.out⟩
  generalize put6 w6 w.heap.size op n nm A1 ks.length c1 0 0=W9 at *;simp [Leaves,settle,results,Tryz.results48,go_sem,r0,r1,r2,r3,r4,r5]
  exact hend
theorem zif (t:List UInt8) (w:World) (hm:t.length≤maxLen) (hw:Lw w):Calls Tryz.prog 48 #[.string ⟨t.toArray⟩] w (zbz (zaw t) w):=by
  by_cases hl:120<t.length
  · exact zhM t w hl hm
  cases hT:za9 t with
  | error e=>exact zi8 t w hl hw e.1 e.2 hT
  | ok l =>
    obtain ⟨hTW,hTL⟩:=zbu hT;obtain ⟨v,hv⟩:=zdT (zcR hTW) 1000 .expr 0 (-1) (by simp [zek];omega)
    rcases v with ⟨a,er⟩ | ⟨x,i,late⟩
    · exact zi7 t w hl hw l hT a er hv
    · by_cases hk:(tk (l++[zan t]) i).kind=0
      · by_cases hla:0≤late
        · exact zhL t w hl hw l hT x i late hv hk hla
        · cases hvx:zaR x with
          | false=>exact zi6 t w hl hw l hT x i late hv hk hla hvx
          | true=>exact zkh t w hl hw l hT x i late hv hk hla hvx
      · exact zhN t w hl hw l hT x i late hv hk
end Go.Proofs.YtcikenlflcofbaaGreatDoor
