/-
 The program's builder of a station: a bay is added.
-/
import Derived.Test.YtjkimieapfbhbaaGreatDoorKPSe
import Derived.RegionTactic
import Derived.Deep.DeepCutAuto
import Derived.Deep.RegionLaw
set_option maxRecDepth 100000
set_option maxHeartbeats 16000000
open Go.Value renaming int → f, slice → r, string → u, bool → C
open Go.IntKind renaming i64 → l
open Option renaming none → s
open Go.Obj renaming cells → z
open Go.Proofs.Tryz renaming prog → D
open Nat renaming le_refl → E, lt_of_lt_of_le → G, le_of_lt → K, zero_le → M, add_zero → O, lt_succ_self → T
open Go.World renaming cell?_of_block → F, ownsRow_nil → P
open And renaming intro → I
open Go.Ending renaming returned → J
open Go.RowKit.Below renaming refl → L
namespace Go.Proofs.YtjkimieapfbhbaaGreatDoor
open Go.RowKit
theorem zme:(Tryz.prog.info? 113).map (fun i=>(i.zero,i.size,i.bytes))=some (some (.agg #[u ⟨#[]⟩,f l 0,f l 0,f l 0,f l 0,f l 0,r s 0 0,C false,f l 0,f l 0,f l 0,f l 0]),12,120):=by kernel_rfl
abbrev BayT:=BayM × Option Addr × Nat
def zen (y:BayT):List Value:=[u y.1.name,f l y.1.kind,f l y.1.ofi,f l y.1.en,f l y.1.zr,f l y.1.zx,r y.2.1 y.1.links.length y.2.2,C y.1.closed,f l y.1.ct,f l y.1.vt,f l y.1.sat,f l y.1.travel]
def BayRC (_:World) (_:Nat) (cs:List Value) (y:BayT):Prop:=cs=zen y
theorem BayRC.mono:Mono BayRC:=fun _ _ _ _ _ _ _ _ h=>h
theorem zmB {S:StatM} {k j:Nat} {x y:BayM} (h:zl4 S k x) (h3:(x.kind != 3)=true) (hj:j<k) (hy:S.bays[j]? = some y) (t1:(x.kind == y.kind)=true) (t2:(x.ofi == y.ofi)=true) (t3:(x.en == y.en)=true):False:=by
 rw [beq_iff_eq] at t1 t2 t3;rw [bne_iff_ne] at h3
 rcases h with h | h
 · exact h3 h
 · exact h j y hj hy ⟨t1.symm,t2.symm,t3.symm⟩
def Bks (B:Nat) (W:World) (k:Nat) (i:Value) (wr:World):Prop:=∃ j:Nat,j≤k∧i = f l j∧Below B W wr
theorem bay_ok (g m:Nat) (S:StatM) (n k:Nat) (A1 A2 A3:Option Addr) (c1 c2 c3:Nat) (v4:Value) (x:BayM) (A:Option Addr) (c B:Nat) (ys:List BayT) (w:World) (hmg:m<g)
 (h:BldS w g m S n (r A1 S.buses.length c1) (r A2 S.lines.length c2) (r A3 S.sources.length c3) v4) (hnn:n=S.buses.length+S.lines.length+S.sources.length+k)
 (ho:w.ownsRow (g+1) 113 12 v4 k (ys.flatMap zen)) (hyl:ys.length=k) (hys:∀ (j:Nat) (y:BayT),ys[j]? = some y→S.bays[j]? = some y.1) (hk:k≤16) (hn4:n≤100) (hx:S.bays[k]? = some x)
 (hn:NameOk x.name) (hs:seen S.names n x.name=false) (hf:BayF S k x) (hB:B≤w.heap.size) (hR:Rws LinkC 2 w B A x.links.length x.links) (hl1:S.buses.length≤4) (hl2:S.lines.length≤6) (hl3:S.sources.length≤4) :
 Calls D 100 #[.pointer (some ⟨g,0,s⟩),.agg #[u x.name,f l x.kind,f l x.ofi,f l x.en,f l x.zr,f l x.zx,r A x.links.length c,C x.closed,f l x.ct,f l x.vt,f l x.sat,f l x.travel]] w (zhZ g m m 113 12 S (n+1) (k+1) ((ys++[(x,A,c)]).flatMap zen) (fun v=>(r A1 S.buses.length c1,r A2 S.lines.length c2,r A3 S.sources.length c3,v)) w):=by
 have hsz:x.name.size≤maxLen:=by have:=hn.len;unfold maxLen;omega
 have hb:=zaa w (z #[u x.name,f l x.kind,f l x.ofi,f l x.en,f l x.zr,f l x.zx,r A x.links.length c,C x.closed,f l x.ct,f l x.vt,f l x.sat,f l x.travel] 113);have hgl:=h.lt;have hml:=h.map.block;have h0:=h.below hb hgl hml;obtain ⟨A4,cc4,rfl,-,-⟩:=zac ho;have hrw:=Rws.of_own (R:=BayRC) ho hyl (fun _ _=>rfl) (fun _ _=>rfl);have c_0:(w.alloc (z #[u x.name,f l x.kind,f l x.ofi,f l x.en,f l x.zr,f l x.zx,r A x.links.length c,C x.closed,f l x.ct,f l x.vt,f l x.sat,f l x.travel] 113)).cell? ⟨w.heap.size,0,s⟩=some (u x.name):=by simp
 have c_1:(w.alloc (z #[u x.name,f l x.kind,f l x.ofi,f l x.en,f l x.zr,f l x.zx,r A x.links.length c,C x.closed,f l x.ct,f l x.vt,f l x.sat,f l x.travel] 113)).cell? ⟨w.heap.size,1,s⟩=some (f l x.kind):=by simp
 have c_2:(w.alloc (z #[u x.name,f l x.kind,f l x.ofi,f l x.en,f l x.zr,f l x.zx,r A x.links.length c,C x.closed,f l x.ct,f l x.vt,f l x.sat,f l x.travel] 113)).cell? ⟨w.heap.size,2,s⟩=some (f l x.ofi):=by simp
 have c_3:(w.alloc (z #[u x.name,f l x.kind,f l x.ofi,f l x.en,f l x.zr,f l x.zx,r A x.links.length c,C x.closed,f l x.ct,f l x.vt,f l x.sat,f l x.travel] 113)).cell? ⟨w.heap.size,3,s⟩=some (f l x.en):=by simp
 have c_4:(w.alloc (z #[u x.name,f l x.kind,f l x.ofi,f l x.en,f l x.zr,f l x.zx,r A x.links.length c,C x.closed,f l x.ct,f l x.vt,f l x.sat,f l x.travel] 113)).cell? ⟨w.heap.size,4,s⟩=some (f l x.zr):=by simp
 have c_5:(w.alloc (z #[u x.name,f l x.kind,f l x.ofi,f l x.en,f l x.zr,f l x.zx,r A x.links.length c,C x.closed,f l x.ct,f l x.vt,f l x.sat,f l x.travel] 113)).cell? ⟨w.heap.size,5,s⟩=some (f l x.zx):=by simp
 have c_6:(w.alloc (z #[u x.name,f l x.kind,f l x.ofi,f l x.en,f l x.zr,f l x.zx,r A x.links.length c,C x.closed,f l x.ct,f l x.vt,f l x.sat,f l x.travel] 113)).cell? ⟨w.heap.size,6,s⟩=some (r A x.links.length c):=by simp
 have c_7:(w.alloc (z #[u x.name,f l x.kind,f l x.ofi,f l x.en,f l x.zr,f l x.zx,r A x.links.length c,C x.closed,f l x.ct,f l x.vt,f l x.sat,f l x.travel] 113)).cell? ⟨w.heap.size,7,s⟩=some (C x.closed):=by simp
 have c_8:(w.alloc (z #[u x.name,f l x.kind,f l x.ofi,f l x.en,f l x.zr,f l x.zx,r A x.links.length c,C x.closed,f l x.ct,f l x.vt,f l x.sat,f l x.travel] 113)).cell? ⟨w.heap.size,8,s⟩=some (f l x.ct):=by simp
 have c_9:(w.alloc (z #[u x.name,f l x.kind,f l x.ofi,f l x.en,f l x.zr,f l x.zx,r A x.links.length c,C x.closed,f l x.ct,f l x.vt,f l x.sat,f l x.travel] 113)).cell? ⟨w.heap.size,9,s⟩=some (f l x.vt):=by simp
 have c_10:(w.alloc (z #[u x.name,f l x.kind,f l x.ofi,f l x.en,f l x.zr,f l x.zx,r A x.links.length c,C x.closed,f l x.ct,f l x.vt,f l x.sat,f l x.travel] 113)).cell? ⟨w.heap.size,10,s⟩=some (f l x.sat):=by simp
 have c_11:(w.alloc (z #[u x.name,f l x.kind,f l x.ofi,f l x.en,f l x.zr,f l x.zx,r A x.links.length c,C x.closed,f l x.ct,f l x.vt,f l x.sat,f l x.travel] 113)).cell? ⟨w.heap.size,11,s⟩=some (f l x.travel):=by simp
 have hg0:w.heap.size<(w.alloc (z #[u x.name,f l x.kind,f l x.ofi,f l x.en,f l x.zr,f l x.zx,r A x.links.length c,C x.closed,f l x.ct,f l x.vt,f l x.sat,f l x.travel] 113)).heap.size:=by simp
 have hkind:((x.kind == 1)=true∧(x.kind != 3)=true∧0≤x.ofi∧x.ofi<(S.lines.length:Int))∨((x.kind == 1)=false∧(x.kind == 2)=true∧(x.kind != 3)=true∧0≤x.ofi∧x.ofi<(S.sources.length:Int))∨((x.kind == 1)=false∧(x.kind == 2)=false∧(x.kind == 3)=true∧(x.kind != 3)=false∧0≤x.ofi∧x.ofi<1):=by
  rcases hf.obj with ⟨a,b,d⟩ | ⟨a,b,d⟩ | ⟨a,b⟩
  · exact .inl ⟨by simp [a],by simp [a],b,d⟩
  · exact .inr (.inl ⟨by simp [a],by simp [a],by simp [a],b,d⟩)
  · exact .inr (.inr ⟨by simp [a],by simp [a],by simp [a],by simp [a],by omega,by omega⟩)
 have H:=Hd h;have H0:=Hd h0;have HO:=Hd ho;have HN:=Hd hn;have HS:=Hd hs;have HX:=Hd hx;have HNN:=Hd hnn;have HF:=Hd hf;have HR:=Hd hR;have HRW:=Hd hrw;have HYS:=Hd hys;obtain ⟨b1,b2,b3,b4,-⟩:=h0.cells;clear h ho h0 hn hs hx hnn hf hR hrw hys;go_enter Tryz.func100,Tryz.ntmps100;go_wp2_with fail
 generalize w.alloc (z #[u x.name,f l x.kind,f l x.ofi,f l x.en,f l x.zr,f l x.zx,r A x.links.length c,C x.closed,f l x.ct,f l x.vt,f l x.sat,f l x.travel] 113)=W at *;refine (zed g m S n _ _ _ _ x.name _ H0.out HN.out HS.out).mono ?_
 rintro e w1 ⟨rfl,rfl⟩
 have gW:g<W.heap.size:=G hgl hb.size
 rcases hkind with ⟨k1,k3,o1,o2⟩ | ⟨k1,k2,k3,o1,o2⟩ | ⟨k1,k2,k4,k3,o1,o2⟩
 all_goals
  go_wp2_with (first
   | (go_at_call 131;(with_reducible refine (zbm _ _ _ (by omega) _).mono ?_);rintro e w' ⟨rfl,rfl⟩)
   | (go_at_call 132;go_loud (with_reducible refine (zki x A c HF.out.range _).mono ?_);rintro e w2 ⟨rfl,j2⟩;have b4':=(j2.cell (p:=⟨g,4,s⟩) gW).trans b4;have g2:g<w2.heap.size:=G gW j2.size))
  go_loopw [52] (Bks w2.heap.size w2 k) (fun i _=>k-(intOf i).toNat)
  case atStart=>exact ⟨0,M _,rfl,L _ _⟩
  case round =>
   obtain ⟨j,hj,rfl,hbel⟩:=hrel;have hw3:=Below.then j2 hbel
   have hw:=Below.then hb hw3
   have hs2:=hbel.size;have hs3:=hw3.size;have g0:w.heap.size<wr.heap.size:=by omega
   have g1:g<wr.heap.size:=by omega
   obtain ⟨p_0,p_1,p_2,p_3,p_4,p_5⟩:=kb6 hw3 hg0 ⟨c_0,c_1,c_2,c_3,c_4,c_5⟩;obtain ⟨p_6,p_7,p_8,p_9,p_10,p_11⟩:=kb6 hw3 hg0 ⟨c_6,c_7,c_8,c_9,c_10,c_11⟩;clear c_0 c_1 c_2 c_3 c_4 c_5 c_6 c_7 c_8 c_9 c_10 c_11 b1 b2 b3 b4 b4'
   by_cases hlt:j<k
   · obtain ⟨b,o,cs,y,rfl,hbB,hy,-,rfl,hat⟩:=(HRW.out.mono BayRC.mono (E _) hw).at_ hlt
     have hy':=HYS.out j y hy
     have d_0:=zae hat 0 rfl
     have d_1:=zae hat 1 rfl
     have d_2:=zae hat 2 rfl
     have d_3:=zae hat 3 rfl
     have d_4:=zae hat 4 rfl
     have d_5:=zae hat 5 rfl
     have d_6:=zae hat 6 rfl
     have d_7:=zae hat 7 rfl
     have d_8:=zae hat 8 rfl
     have d_9:=zae hat 9 rfl
     have d_10:=zae hat 10 rfl
     have d_11:=zae hat 11 rfl
     have hbw:b<wr.heap.size:=by omega
     have HY:=Hd hy'
     clear hat hy hy'
     simp only [O] at d_0
     cases t1:(x.kind == y.1.kind)
     case' true=>cases t2:(x.ofi == y.1.ofi)
     case' true.true=>cases t3:(x.en == y.1.en)
     all_goals first
      | exact (zmB HF.out.twin k3 hlt HY.out t1 t2 t3).elim
      | (go_wp2
         go_roundw
         case rel=>exact ⟨j+1,by omega,by go_num,hbel.alloc hs2 _⟩
         case measure=>simp [intOf];omega)
   · obtain rfl:k=j:=by omega
     go_wp2_with (first | (go_at_call 133;(with_reducible refine (zlb g m S n A1 c1 _ _ _ x A c B wr (by omega) (H.out.below hw hgl hml) (HR.out.mono LinkC.mono (E _) (hw.mono hB)) HF.out.links hl1).mono ?_);rintro e w3 ⟨rfl,j5⟩))
     have hw5:=Below.then hw3 j5
     have HB3:=Hd (Below.then hb hw5)
     have HJ3:=Hd hw5
     have h3:=H.out.below HB3.out hgl hml
     have g3:w.heap.size<w3.heap.size:=G g0 j5.size
     obtain ⟨d0,d1,d2,d3,d4,d5⟩:=kb6 j5 g0 ⟨p_0,p_1,p_2,p_3,p_4,p_5⟩;obtain ⟨d6,d7,d8,d9,d10,d11⟩:=kb6 j5 g0 ⟨p_6,p_7,p_8,p_9,p_10,p_11⟩
     obtain ⟨w4,hup,hm4,hg4⟩:=h3.map.drew.store (t := 233) Tryz.underlying9 Tryz.underlying233 (by unfold maxLen;omega) hsz (plainElem_bool Tryz.underlying4 true)
     obtain ⟨b1,b2,b3,b4,b5⟩:=h3.cells
     have gg3:=h3.lt
     have H3:=Hd h3
     have HM3:=Hd h3.map.drew
     have HM4:=Hd hm4
     have HG4:=Hd hg4
     clear p_0 p_1 p_2 p_3 p_4 p_5 p_6 p_7 p_8 p_9 p_10 p_11 h3 hm4 hg4 hw5 j5
     go_region
     have h4:=BldS.put (W:=w3.drew) (g:=g) (m:=m) (S:=S) (n:=n) (v1 := r A1 S.buses.length c1) (v2 := r A2 S.lines.length c2) (v3 := r A3 S.sources.length c3) (v4 := r A4 k cc4) ⟨H3.out.heap,H3.out.ne,H3.out.map.drew⟩ (by rw [HNN.out];exact zdB HX.out) HM4.out HG4.out
     have ho4:w4.ownsRow (g+1) 113 12 (r A4 k cc4) k (ys.flatMap zen):=zb0 (w:=w3.drew) ((zab HO.out HB3.out (E _)).drew) HG4.out (by omega)
     obtain ⟨b1,b2,b3,b4,b5⟩:=h4.cells
     have gg4:=h4.lt
     have gw4:w.heap.size<w4.heap.size:=G g3 HG4.out.size
     have hne:w.heap.size≠m:=by omega
     have e0:w4.cell? ⟨w.heap.size,0,s⟩=some (u x.name):=(F (a:=⟨w.heap.size,0,s⟩) (HG4.out.block w.heap.size g3 (fun q=>by injection q;omega))).trans d0
     have e1:w4.cell? ⟨w.heap.size,1,s⟩=some (f l x.kind):=(F (a:=⟨w.heap.size,1,s⟩) (HG4.out.block w.heap.size g3 (fun q=>by injection q;omega))).trans d1
     have e2:w4.cell? ⟨w.heap.size,2,s⟩=some (f l x.ofi):=(F (a:=⟨w.heap.size,2,s⟩) (HG4.out.block w.heap.size g3 (fun q=>by injection q;omega))).trans d2
     have e3:w4.cell? ⟨w.heap.size,3,s⟩=some (f l x.en):=(F (a:=⟨w.heap.size,3,s⟩) (HG4.out.block w.heap.size g3 (fun q=>by injection q;omega))).trans d3
     have e4:w4.cell? ⟨w.heap.size,4,s⟩=some (f l x.zr):=(F (a:=⟨w.heap.size,4,s⟩) (HG4.out.block w.heap.size g3 (fun q=>by injection q;omega))).trans d4
     have e5:w4.cell? ⟨w.heap.size,5,s⟩=some (f l x.zx):=(F (a:=⟨w.heap.size,5,s⟩) (HG4.out.block w.heap.size g3 (fun q=>by injection q;omega))).trans d5
     have e6:w4.cell? ⟨w.heap.size,6,s⟩=some (r A x.links.length c):=(F (a:=⟨w.heap.size,6,s⟩) (HG4.out.block w.heap.size g3 (fun q=>by injection q;omega))).trans d6
     have e7:w4.cell? ⟨w.heap.size,7,s⟩=some (C x.closed):=(F (a:=⟨w.heap.size,7,s⟩) (HG4.out.block w.heap.size g3 (fun q=>by injection q;omega))).trans d7
     have e8:w4.cell? ⟨w.heap.size,8,s⟩=some (f l x.ct):=(F (a:=⟨w.heap.size,8,s⟩) (HG4.out.block w.heap.size g3 (fun q=>by injection q;omega))).trans d8
     have e9:w4.cell? ⟨w.heap.size,9,s⟩=some (f l x.vt):=(F (a:=⟨w.heap.size,9,s⟩) (HG4.out.block w.heap.size g3 (fun q=>by injection q;omega))).trans d9
     have e10:w4.cell? ⟨w.heap.size,10,s⟩=some (f l x.sat):=(F (a:=⟨w.heap.size,10,s⟩) (HG4.out.block w.heap.size g3 (fun q=>by injection q;omega))).trans d10
     have e11:w4.cell? ⟨w.heap.size,11,s⟩=some (f l x.travel):=(F (a:=⟨w.heap.size,11,s⟩) (HG4.out.block w.heap.size g3 (fun q=>by injection q;omega))).trans d11
     obtain ⟨ti,hti,hzi⟩:=Option.map_eq_some_iff.1 zme
     obtain ⟨hz0,hz1,hz2⟩:ti.zero=some (.agg #[u ⟨#[]⟩,f l 0,f l 0,f l 0,f l 0,f l 0,r s 0 0,C false,f l 0,f l 0,f l 0,f l 0])∧ti.size=12∧ti.bytes=120:=by simpa using hzi
     have HTI:=Hd (I hti (I hz0 (I hz1 hz2)))
     have HOW:=Hd (show ((w4.alloc (z #[u x.name,f l x.kind,f l x.ofi,f l x.en,f l x.zr,f l x.zx,r A x.links.length c,C x.closed,f l x.ct,f l x.vt,f l x.sat,f l x.travel] 113)).drew).ownsRow (g+1) 113 12 (r A4 k cc4) k (ys.flatMap zen) from ho4.drew.alloc _)
     have HSR:=Hd (show Src ((w4.alloc (z #[u x.name,f l x.kind,f l x.ofi,f l x.en,f l x.zr,f l x.zx,r A x.links.length c,C x.closed,f l x.ct,f l x.vt,f l x.sat,f l x.travel] 113)).drew) 12 (some ⟨w4.heap.size,0,s⟩) 1 [u x.name,f l x.kind,f l x.ofi,f l x.en,f l x.zr,f l x.zx,r A x.links.length c,C x.closed,f l x.ct,f l x.vt,f l x.sat,f l x.travel] from za5 w4.drew [u x.name,f l x.kind,f l x.ofi,f l x.en,f l x.zr,f l x.zx,r A x.links.length c,C x.closed,f l x.ct,f l x.vt,f l x.sat,f l x.travel] 113 12 1 rfl)
     have HH4:=Hd h4
     have HO4:=Hd ho4
     clear hti hzi hz0 hz1 hz2 h4 ho4 d0 d1 d2 d3 d4 d5 d6 d7 d8 d9 d10 d11 hup
     go_upto_region 27 with fail
     go_region_law ((refine zai (o:=⟨some 101,_,_,_,_,_⟩) (w:=(w4.alloc (z #[u x.name,f l x.kind,f l x.ofi,f l x.en,f l x.zr,f l x.zx,r A x.links.length c,C x.closed,f l x.ct,f l x.vt,f l x.sat,f l x.travel] 113)).drew) _ _ 25 rfl rfl Tryz.underlying25 HTI.out.1 HTI.out.2.1 HTI.out.2.2.1 HTI.out.2.2.2 rfl (by decide) rfl HOW.out rfl HSR.out (by simp [Value.oneCell']) (by unfold maxLen;omega) (by omega) (by simp;omega) ?_;intro v6 w6 hown6 hg6 hv6;have hb6:=HH4.out.after hmg HO4.out (T g) hg6;have l6:=hb6.lt;have f6:=hb6.free 4;obtain ⟨-,-,-,x6,-⟩:=hb6.cells;have HB6:=Hd hb6;have HW6:=Hd hown6;have HG6:=Hd hg6;obtain ⟨A6,k6,hv6e,-,-⟩:=zac hown6;clear hb6 hown6 hg6 hv6;subst hv6e))
     all_goals
      go_wp2
      go_ret
      refine ⟨r A6 (k+1) k6,rfl,⟨?_,HB6.out.ne,?_⟩,?_,?_⟩
      · rw [heap_setCell_same w6 g 4 _ _ _ HB6.out.heap]
        rfl
      · exact HB6.out.map.kept ((zb2 w6 g 4 _).block m HB6.out.map.block (fun q=>by injection q;omega))
      · exact zb0 (by rw [List.flatMap_append];simpa [zen] using HW6.out) (zb2 w6 g 4 _) (T g)
      · refine Below.setCell ?_ (K hmg) _
        exact (((HB3.out.mono (by omega)).drew).trans (zaO HG4.out (K HM3.out.block))).trans (zdk HO4.out (by omega) (K HH4.out.map.block) HG6.out)
def Fr1 (g m:Nat) (S:StatM) (v2 v3 v4:Value) (W:World) (i:Value) (wr:World):Prop:=
 ∃ k:Nat,k≤S.buses.length∧i = f l k∧(∃ v,BldS wr g m S k v v2 v3 v4∧wr.ownsRow (g+1) 9 1 v k (strs S.buses k))∧Below m W wr
theorem zjK (g m:Nat) (S:StatM) (A:Option Addr) (c B:Nat) (v1 v2 v3 v4:Value) (w:World) (hmg:m<g) (hBm:B≤m) (h:BldS w g m S 0 v1 v2 v3 v4) (ho:w.ownsRow (g+1) 9 1 v1 0 (strs S.buses 0))
 (hr:Rws StrC 1 w B A S.buses.length S.buses) (hF:StF S) :
 Calls D 93 #[r A S.buses.length c,.func (.func 94) #[.pointer (some ⟨g,0,s⟩)] #[]] w fun e w' =>
  e = J (f l 0)∧∃ A' c',BldS w' g m S S.buses.length (r A' S.buses.length c') v2 v3 v4∧Below m w w':=by
 have HF:=Hd hF;have HR:=Hd hr;have hn1:=hF.n1;have H:=Hd h;have HO:=Hd ho;clear hF hr h ho;go_enter Tryz.func93,Tryz.ntmps93;go_wp2
 go_loopw [10] (Fr1 g m S v2 v3 v4 w) (fun i _=>S.buses.length-(intOf i).toNat)
 case atStart=>exact ⟨0,M _,rfl,⟨v1,H.out,HO.out⟩,L _ _⟩
 case round =>
  obtain ⟨k,hk,rfl,⟨v,hb,hown⟩,hbel⟩:=hrel
  by_cases hlt:k<S.buses.length
  · obtain ⟨b,o,cs,x,rfl,hbB,hx,-,⟨rfl,-⟩,hat⟩:=(HR.out.mono StrC.mono (E _) (hbel.mono hBm)).at_ hlt
    have c0:=hat 0 _ rfl
    simp only [O,Nat.mul_one] at c0
    have hbw:b<wr.heap.size:=by have:=hb.map.block;omega
    obtain ⟨f1,f2⟩:=HF.out.names k x (zdy hx)
    have HC:=Hd (bus_ok g m S k v v2 v3 v4 x wr hmg hb hown (by omega) hx f1 f2)
    clear hb hown hat hx f1 f2
    go_wp2_with (first | (go_at_call 94;refine HC.out.mono ?_;rintro e w2 ⟨v',rfl,q1,q2,q3⟩;have Q:=Hd (I q1 (I q2 q3));clear q1 q2 q3))
    go_roundw
    case rel=>exact ⟨k+1,by omega,by go_num,⟨v',Q.out.1,Q.out.2.1⟩,hbel.trans Q.out.2.2⟩
    case measure=>simp [intOf];omega
  · obtain rfl:k=S.buses.length:=by omega
    obtain ⟨A',c',rfl,-,-⟩:=zac hown
    go_wp2
    go_ret
    exact ⟨rfl,A',c',hb,hbel⟩
def Fr2 (g m:Nat) (S:StatM) (v1 v3 v4:Value) (W:World) (i:Value) (wr:World):Prop:=
 ∃ k:Nat,k≤S.lines.length∧i = f l k∧(∃ v,BldS wr g m S (S.buses.length+k) v1 v v3 v4∧wr.ownsRow (g+1) 119 5 v k (zbM S.lines k))∧Below m W wr
theorem zjL (g m:Nat) (S:StatM) (A:Option Addr) (c B:Nat) (v1 v2 v3 v4:Value) (w:World) (hmg:m<g) (hBm:B≤m) (h:BldS w g m S S.buses.length v1 v2 v3 v4) (ho:w.ownsRow (g+1) 119 5 v2 0 (zbM S.lines 0))
 (hr:Rws LineC 5 w B A S.lines.length S.lines) (hF:StF S) :
 Calls D 95 #[r A S.lines.length c,.func (.func 96) #[.pointer (some ⟨g,0,s⟩)] #[]] w fun e w' =>
  e = J (f l 0)∧∃ A' c',BldS w' g m S (S.buses.length+S.lines.length) v1 (r A' S.lines.length c') v3 v4∧Below m w w':=by
 have HF:=Hd hF;have HR:=Hd hr;have hn1:=hF.n1;have hn2:=hF.n2;have hn3:=hF.n3;have H:=Hd h;have HO:=Hd ho;clear hF hr h ho;go_enter Tryz.func95,Tryz.ntmps95;go_wp2
 go_loopw [10] (Fr2 g m S v1 v3 v4 w) (fun i _=>S.lines.length-(intOf i).toNat)
 case atStart=>exact ⟨0,M _,rfl,⟨v2,H.out,HO.out⟩,L _ _⟩
 case round =>
  obtain ⟨k,hk,rfl,⟨v,hb,hown⟩,hbel⟩:=hrel
  by_cases hlt:k<S.lines.length
  · obtain ⟨b,o,cs,x,rfl,hbB,hx,-,⟨rfl,-⟩,hat⟩:=(HR.out.mono LineC.mono (E _) (hbel.mono hBm)).at_ hlt
    have c0:=zae hat 0 rfl
    have c1:=zae hat 1 rfl
    have c2:=zae hat 2 rfl
    have c3:=zae hat 3 rfl
    have c4:=zae hat 4 rfl
    simp only [O] at c0
    have hbw:b<wr.heap.size:=by have:=hb.map.block;omega
    obtain ⟨f1,f2⟩:=HF.out.names _ _ (zdz hx)
    have hbx:=zaa wr (z #[u x.name,f l x.r1,f l x.x1,f l x.r0,f l x.x0] 119)
    have hml:=hb.map.block
    have HBX:=Hd hbx
    have HC:=Hd (zmm g m S (S.buses.length+k) k v1 v v3 v4 x (wr.alloc (z #[u x.name,f l x.r1,f l x.x1,f l x.r0,f l x.x0] 119)) hmg (hb.below hbx hb.lt hb.map.block) rfl (zab hown hbx (E _)) (by omega) (by omega) hx f1 f2 (HF.out.lines k x hx))
    clear hb hown hat hx f1 f2 hbx
    go_wp2_with (first | (go_at_call 96;refine HC.out.mono ?_;rintro e w2 ⟨v',rfl,q1,q2,q3⟩;have Q:=Hd (I q1 (I q2 q3));clear q1 q2 q3))
    go_roundw
    case rel=>exact ⟨k+1,by omega,by go_num,⟨v',Q.out.1,Q.out.2.1⟩,hbel.trans ((HBX.out.mono (K hml)).trans Q.out.2.2)⟩
    case measure=>simp [intOf];omega
  · obtain rfl:k=S.lines.length:=by omega
    obtain ⟨A',c',rfl,-,-⟩:=zac hown
    go_wp2
    go_ret
    exact ⟨rfl,A',c',hb,hbel⟩
def Fr3 (g m:Nat) (S:StatM) (v1 v2 v4:Value) (W:World) (i:Value) (wr:World):Prop:=
 ∃ k:Nat,k≤S.sources.length∧i = f l k∧(∃ v,BldS wr g m S ((S.buses.length+S.lines.length)+k) v1 v2 v v4∧wr.ownsRow (g+1) 122 6 v k (zbj S.sources k))∧Below m W wr
theorem zjM (g m:Nat) (S:StatM) (A:Option Addr) (c B:Nat) (v1 v2 v3 v4:Value) (w:World) (hmg:m<g) (hBm:B≤m) (h:BldS w g m S (S.buses.length+S.lines.length) v1 v2 v3 v4) (ho:w.ownsRow (g+1) 122 6 v3 0 (zbj S.sources 0))
 (hr:Rws SourceC 6 w B A S.sources.length S.sources) (hF:StF S) :
 Calls D 97 #[r A S.sources.length c,.func (.func 98) #[.pointer (some ⟨g,0,s⟩)] #[]] w fun e w' =>
  e = J (f l 0)∧∃ A' c',BldS w' g m S ((S.buses.length+S.lines.length)+S.sources.length) v1 v2 (r A' S.sources.length c') v4∧Below m w w':=by
 have HF:=Hd hF;have HR:=Hd hr;have hn1:=hF.n1;have hn2:=hF.n2;have hn3:=hF.n3;have H:=Hd h;have HO:=Hd ho;clear hF hr h ho;go_enter Tryz.func97,Tryz.ntmps97;go_wp2
 go_loopw [10] (Fr3 g m S v1 v2 v4 w) (fun i _=>S.sources.length-(intOf i).toNat)
 case atStart=>exact ⟨0,M _,rfl,⟨v3,H.out,HO.out⟩,L _ _⟩
 case round =>
  obtain ⟨k,hk,rfl,⟨v,hb,hown⟩,hbel⟩:=hrel
  by_cases hlt:k<S.sources.length
  · obtain ⟨b,o,cs,x,rfl,hbB,hx,-,⟨rfl,-⟩,hat⟩:=(HR.out.mono SourceC.mono (E _) (hbel.mono hBm)).at_ hlt
    have c0:=zae hat 0 rfl
    have c1:=zae hat 1 rfl
    have c2:=zae hat 2 rfl
    have c3:=zae hat 3 rfl
    have c4:=zae hat 4 rfl
    have c5:=zae hat 5 rfl
    simp only [O] at c0
    have hbw:b<wr.heap.size:=by have:=hb.map.block;omega
    obtain ⟨f1,f2⟩:=HF.out.names _ _ (zdA hx)
    have hbx:=zaa wr (z #[u x.name,f l x.emf,f l x.r1,f l x.x1,f l x.r0,f l x.x0] 122)
    have hml:=hb.map.block
    have HBX:=Hd hbx
    have HC:=Hd (zks g m S ((S.buses.length+S.lines.length)+k) k v1 v2 v v4 x (wr.alloc (z #[u x.name,f l x.emf,f l x.r1,f l x.x1,f l x.r0,f l x.x0] 122)) hmg (hb.below hbx hb.lt hb.map.block) rfl (zab hown hbx (E _)) (by omega) (by omega) hx f1 f2 (HF.out.sources k x hx))
    clear hb hown hat hx f1 f2 hbx
    go_wp2_with (first | (go_at_call 98;refine HC.out.mono ?_;rintro e w2 ⟨v',rfl,q1,q2,q3⟩;have Q:=Hd (I q1 (I q2 q3));clear q1 q2 q3))
    go_roundw
    case rel=>exact ⟨k+1,by omega,by go_num,⟨v',Q.out.1,Q.out.2.1⟩,hbel.trans ((HBX.out.mono (K hml)).trans Q.out.2.2)⟩
    case measure=>simp [intOf];omega
  · obtain rfl:k=S.sources.length:=by omega
    obtain ⟨A',c',rfl,-,-⟩:=zac hown
    go_wp2
    go_ret
    exact ⟨rfl,A',c',hb,hbel⟩
theorem zmE {S:StatM} {k:Nat} {ys:List BayT} {x:BayM} {A:Option Addr} {c:Nat} (h1:ys.length=k) (h2:∀ (j:Nat) (y:BayT),ys[j]? = some y→S.bays[j]? = some y.1) (hx:S.bays[k]? = some x) :
 (ys++[(x,A,c)]).length=k+1∧∀ (j:Nat) (y:BayT),(ys++[(x,A,c)])[j]? = some y→S.bays[j]? = some y.1:=by
 refine ⟨by simp [h1],fun j y hj => ?_⟩
 rcases Nat.lt_or_ge j ys.length with h | h
 · rw [List.getElem?_append_left h] at hj
   exact h2 j y hj
 · rw [List.getElem?_append_right h] at hj
   have:j-ys.length=0:=by
    have:=(List.getElem?_eq_some_iff.1 hj).1
    simp at this
    omega
   rw [this] at hj
   obtain rfl:j=k:=by omega
   simp at hj
   rw [← hj]
   exact hx
def Fr4 (g m:Nat) (S:StatM) (v1 v2 v3:Value) (W:World) (i:Value) (wr:World):Prop:=
 ∃ k:Nat,k≤S.bays.length∧i = f l k∧(∃ v ys,BldS wr g m S (S.buses.length+S.lines.length+S.sources.length+k) v1 v2 v3 v∧wr.ownsRow (g+1) 113 12 v k (List.flatMap zen ys)∧ys.length=k∧(∀ (j:Nat) (y:BayT),ys[j]? = some y→S.bays[j]? = some y.1))∧Below m W wr
theorem zjN (g m:Nat) (S:StatM) (A A1 A2 A3:Option Addr) (c c1 c2 c3 B:Nat) (v4:Value) (w:World) (hmg:m<g) (hBm:B≤m) (h:BldS w g m S (S.buses.length+S.lines.length+S.sources.length) (r A1 S.buses.length c1) (r A2 S.lines.length c2) (r A3 S.sources.length c3) v4)
 (ho:w.ownsRow (g+1) 113 12 v4 0 []) (hr:Rws BayC 12 w B A S.bays.length S.bays) (hF:StF S) :
 Calls D 99 #[r A S.bays.length c,.func (.func 100) #[.pointer (some ⟨g,0,s⟩)] #[]] w fun e w' =>
  e = J (f l 0)∧Below m w w':=by
 have HF:=Hd hF;have HR:=Hd hr;have hn1:=hF.n1;have hn2:=hF.n2;have hn3:=hF.n3;have hn4:=hF.n4;have H:=Hd h;have HO:=Hd ho;clear hF hr h ho;go_enter Tryz.func99,Tryz.ntmps99;go_wp2
 go_loopw [10] (Fr4 g m S (r A1 S.buses.length c1) (r A2 S.lines.length c2) (r A3 S.sources.length c3) w) (fun i _=>S.bays.length-(intOf i).toNat)
 case atStart=>exact ⟨0,M _,rfl,⟨v4,[],H.out,HO.out,rfl,fun _ _ h=>by simp at h⟩,L _ _⟩
 case round =>
  obtain ⟨k,hk,rfl,⟨v,ys,hb,hown,hyl,hys⟩,hbel⟩:=hrel
  by_cases hlt:k<S.bays.length
  · obtain ⟨b,o,cs,x,rfl,hbB,hx,-,⟨AL,cL,rfl,-,-,-,hlk⟩,hat⟩:=(HR.out.mono BayC.mono (E _) (hbel.mono hBm)).at_ hlt
    have c_0:=zae hat 0 rfl
    have c_1:=zae hat 1 rfl
    have c_2:=zae hat 2 rfl
    have c_3:=zae hat 3 rfl
    have c_4:=zae hat 4 rfl
    have c_5:=zae hat 5 rfl
    have c_6:=zae hat 6 rfl
    have c_7:=zae hat 7 rfl
    have c_8:=zae hat 8 rfl
    have c_9:=zae hat 9 rfl
    have c_10:=zae hat 10 rfl
    have c_11:=zae hat 11 rfl
    simp only [O] at c_0
    have hml:=hb.map.block
    have hbw:b<wr.heap.size:=by omega
    obtain ⟨f1,f2⟩:=HF.out.names _ _ (zdB hx)
    have hbx:=zaa wr (z #[u x.name,f l x.kind,f l x.ofi,f l x.en,f l x.zr,f l x.zx,r AL x.links.length cL,C x.closed,f l x.ct,f l x.vt,f l x.sat,f l x.travel] 113)
    have HBX:=Hd hbx
    have HY:=Hd (zmE (A:=AL) (c:=cL) hyl hys hx)
    have HC:=Hd (bay_ok g m S (S.buses.length+S.lines.length+S.sources.length+k) k A1 A2 A3 c1 c2 c3 v x AL cL B ys (wr.alloc (z #[u x.name,f l x.kind,f l x.ofi,f l x.en,f l x.zr,f l x.zx,r AL x.links.length cL,C x.closed,f l x.ct,f l x.vt,f l x.sat,f l x.travel] 113)) hmg (hb.below hbx hb.lt hb.map.block) rfl (zab hown hbx (E _)) hyl hys (by omega) (by omega) hx f1 f2 (HF.out.bays k x hx)
     (by have:=hbx.size;omega) (hlk.mono LinkC.mono (E _) (hbx.mono (by omega))) (by omega) (by omega) (by omega))
    clear hb hown hat hx f1 f2 hbx hyl hys hlk
    go_wp2_with (first | (go_at_call 100;refine HC.out.mono ?_;rintro e w2 ⟨v',rfl,q1,q2,q3⟩;have Q:=Hd (I q1 (I q2 q3));clear q1 q2 q3))
    go_roundw
    case rel=>exact ⟨k+1,by omega,by go_num,⟨v',_,Q.out.1,Q.out.2.1,HY.out.1,HY.out.2⟩,hbel.trans ((HBX.out.mono (K hml)).trans Q.out.2.2)⟩
    case measure=>simp [intOf];omega
  · obtain rfl:k=S.bays.length:=by omega
    go_wp2
    go_ret
    exact ⟨rfl,hbel⟩
theorem zfG (S:StatM) (w:World):Calls D 92 #[] w fun e w'=>∃ g m,e = J (.pointer (some ⟨g,0,s⟩))∧m=w.heap.size∧m<g ∧
 BldS w' g m S 0 (r s 0 0) (r s 0 0) (r s 0 0) (r s 0 0)∧Below w.heap.size w w':=by
 have hmm := @run_makeMap D;go_enter Tryz.func92,Tryz.ntmps92;go_wp2;go_ret
 refine ⟨_,_,rfl,rfl,by simp,⟨?_,by simp,?_⟩,?_⟩
 · rw [show w.heap.size+1=(w.alloc (Obj.map #[] 0)).heap.size by simp]
   exact heap_alloc_new _ _
 · exact (by rw [zbu];exact MapS.made D 9 4 w:MapS D 9 4 _ w.heap.size 0 (zcb S.names 0)).kept (Below.heap_alloc _ _ _ (by simp))
 · exact ((L _ _).alloc (E _) _).alloc (by simp) _
theorem zcl (B:Nat) (p:StAt) (S:StatM) (w:World) (hB:B≤w.heap.size) (hS:StC w B p S) (hF:StF S) :
 Calls D 68 #[.agg #[u S.name,r p.A1 S.buses.length p.c1,r p.A2 S.lines.length p.c2,r p.A3 S.sources.length p.c3,r p.A4 S.bays.length p.c4]] w fun e w'=>e = J (f l 0)∧Below w.heap.size w w':=by
 obtain ⟨hn1,hn1b⟩:=hF.n1;have hz:((S.buses.length:Int) == 0)=false:=by rw [beq_eq_false_iff_ne];omega
 have hn2:=hF.n2;have hn3:=hF.n3;have hn4:=hF.n4;have HF:=Hd hF;have HS:=Hd hS;have hb:=zaa w (z #[u S.name,r p.A1 S.buses.length p.c1,r p.A2 S.lines.length p.c2,r p.A3 S.sources.length p.c3,r p.A4 S.bays.length p.c4] 27);have c0:(w.alloc (z #[u S.name,r p.A1 S.buses.length p.c1,r p.A2 S.lines.length p.c2,r p.A3 S.sources.length p.c3,r p.A4 S.bays.length p.c4] 27)).cell? ⟨w.heap.size,0,s⟩=some (u S.name):=by simp
 have c1:(w.alloc (z #[u S.name,r p.A1 S.buses.length p.c1,r p.A2 S.lines.length p.c2,r p.A3 S.sources.length p.c3,r p.A4 S.bays.length p.c4] 27)).cell? ⟨w.heap.size,1,s⟩=some (r p.A1 S.buses.length p.c1):=by simp
 have c2:(w.alloc (z #[u S.name,r p.A1 S.buses.length p.c1,r p.A2 S.lines.length p.c2,r p.A3 S.sources.length p.c3,r p.A4 S.bays.length p.c4] 27)).cell? ⟨w.heap.size,2,s⟩=some (r p.A2 S.lines.length p.c2):=by simp
 have c3:(w.alloc (z #[u S.name,r p.A1 S.buses.length p.c1,r p.A2 S.lines.length p.c2,r p.A3 S.sources.length p.c3,r p.A4 S.bays.length p.c4] 27)).cell? ⟨w.heap.size,3,s⟩=some (r p.A3 S.sources.length p.c3):=by simp
 have c4:(w.alloc (z #[u S.name,r p.A1 S.buses.length p.c1,r p.A2 S.lines.length p.c2,r p.A3 S.sources.length p.c3,r p.A4 S.bays.length p.c4] 27)).cell? ⟨w.heap.size,4,s⟩=some (r p.A4 S.bays.length p.c4):=by simp
 have hg0:w.heap.size<(w.alloc (z #[u S.name,r p.A1 S.buses.length p.c1,r p.A2 S.lines.length p.c2,r p.A3 S.sources.length p.c3,r p.A4 S.bays.length p.c4] 27)).heap.size:=by simp
 clear hF hS;go_enter Tryz.func68,Tryz.ntmps68;go_wp2_with fail
 generalize w.alloc (z #[u S.name,r p.A1 S.buses.length p.c1,r p.A2 S.lines.length p.c2,r p.A3 S.sources.length p.c3,r p.A4 S.bays.length p.c4] 27)=W at *;refine (zdp S.name _ HF.out.name).mono ?_
 rintro e w1 ⟨rfl,rfl⟩
 go_wp2_with fail
 refine (zfG S W).mono ?_
 rintro e w1 ⟨g,m,rfl,rfl,hmg,h1,j1⟩
 have HH1:=Hd h1;have J1:=Hd j1;obtain ⟨d1,d2,d3,d4⟩:=kb4 j1 hg0 ⟨c1,c2,c3,c4⟩;have g1:w.heap.size<w1.heap.size:=G hg0 j1.size;have hBm:B≤W.heap.size:=by omega
 have hwm:w.heap.size≤W.heap.size:=by omega
 clear h1 j1 c0 c1 c2 c3 c4;go_wp2_with fail
 refine (zjK g W.heap.size S p.A1 p.c1 B _ _ _ _ w1 hmg hBm HH1.out (P _ _ _ _) (HS.out.buses.mono StrC.mono (E _) ((hb.trans (J1.out.mono hwm)).mono hB)) HF.out).mono ?_
 rintro e w2 ⟨rfl,A1,k1,h2,j2⟩
 have HH2:=Hd h2;have J2:=Hd (J1.out.trans j2);obtain ⟨e2,e3,e4⟩:=kb3 j2 hg0 ⟨d2,d3,d4⟩;have g2:w.heap.size<w2.heap.size:=G g1 j2.size;clear h2 j2 d1 d2 d3 d4;go_wp2_with fail
 refine (zjL g W.heap.size S p.A2 p.c2 B _ _ _ _ w2 hmg hBm HH2.out (P _ _ _ _) (HS.out.lines.mono LineC.mono (E _) ((hb.trans (J2.out.mono hwm)).mono hB)) HF.out).mono ?_
 rintro e w3 ⟨rfl,A2,k2,h3,j3⟩
 have HH3:=Hd h3;have J3:=Hd (J2.out.trans j3);have f3:=(j3.cell (p:=⟨w.heap.size,3,s⟩) hg0).trans e3;have f4:=(j3.cell (p:=⟨w.heap.size,4,s⟩) hg0).trans e4;have g3:w.heap.size<w3.heap.size:=G g2 j3.size;clear h3 j3 e2 e3 e4;go_wp2_with fail
 refine (zjM g W.heap.size S p.A3 p.c3 B _ _ _ _ w3 hmg hBm HH3.out (P _ _ _ _) (HS.out.sources.mono SourceC.mono (E _) ((hb.trans (J3.out.mono hwm)).mono hB)) HF.out).mono ?_
 rintro e w4 ⟨rfl,A3,k3,h4,j4⟩
 have HH4:=Hd h4;have J4:=Hd (J3.out.trans j4);have u4:=(j4.cell (p:=⟨w.heap.size,4,s⟩) hg0).trans f4;have g4:w.heap.size<w4.heap.size:=G g3 j4.size;clear h4 j4 f3 f4;go_wp2_with fail
 refine (zjN g W.heap.size S p.A4 A1 A2 A3 p.c4 k1 k2 k3 B _ w4 hmg hBm HH4.out (P _ _ _ _) (HS.out.bays.mono BayC.mono (E _) ((hb.trans (J4.out.mono hwm)).mono hB)) HF.out).mono ?_
 rintro e w5 ⟨rfl,j5⟩
 go_wp2;go_ret
 exact ⟨rfl,hb.trans ((J4.out.trans j5).mono hwm)⟩
theorem zjg (n lo hi:Int) (w:World):Calls D 157 #[f l n,f l lo,f l hi] w fun e w'=>e = J (C (inB n lo hi))∧w=w':=by
 by_cases h1:lo≤n
 · by_cases h2:n≤hi
   · go_enter Tryz.func157,Tryz.ntmps157
     go_wp2
     go_ret
     exact ⟨zcV (zaF.2 ⟨h1,h2⟩),rfl⟩
   · go_enter Tryz.func157,Tryz.ntmps157
     go_wp2
     go_ret
     exact ⟨zcV (zcZ.2 (by omega)),rfl⟩
 · go_enter Tryz.func157,Tryz.ntmps157
   go_wp2
   go_ret
   exact ⟨zcV (zcZ.2 (by omega)),rfl⟩
theorem za9 (n lo hi:Int) (h:lo≤n∧n≤hi) (w:World):Calls D 157 #[f l n,f l lo,f l hi] w fun e w'=>e = J (C true)∧w=w' :=
 (zjg n lo hi w).mono fun _ _ ⟨he,hw⟩=>⟨by rw [he,zaF.2 h],hw⟩
theorem zeH (nm:ByteArray) (k:Int) (n:NumM) (c49 c50 c51 c52:Value) (cs:List Value) (hcs:cs=zbd nm k n c49 c50 c51 c52) (h:NumbersF n) (w:World):Calls D 137 #[.agg cs.toArray] w (zaG true w):=by
 have q24:=rq w hcs 24 rfl;have q25:=rq w hcs 25 rfl;have q26:=rq w hcs 26 rfl;have hb:=zaa w (z cs.toArray 60);have hg:w.heap.size<(w.alloc (z cs.toArray 60)).heap.size:=by simp
 clear hcs;obtain ⟨s1,s2⟩:=h.scheme
 have hh:((n.scheme == 3)=true∧(n.scheme == 0)=false∧1≤n.wait∧n.wait≤50∧0≤n.guard∧n.guard≤50)∨((n.scheme == 3)=false∧(n.wait != 0)=false∧(n.scheme == 0)=true∧(n.guard == 0)=true)∨((n.scheme == 3)=false∧(n.wait != 0)=false∧(n.scheme == 0)=false∧0≤n.guard∧n.guard≤50):=by
  have h1:=h.guard;have h2:=h.wait;simp only [beq_iff_eq,beq_eq_false_iff_ne,bne_eq_false_iff_eq];omega
 clear h
 rcases hh with ⟨a1,a2,a3,a4,a5,a6⟩ | ⟨a1,a2,a3,a4⟩ | ⟨a1,a2,a3,a4,a5⟩
 all_goals
  go_enter Tryz.func137,Tryz.ntmps137;go_upto_region 1 with fail
  generalize w.alloc (z cs.toArray 60)=W0 at *;go_wp2_with (first | (go_at_call 157;(with_reducible refine (za9 _ _ _ (by omega) _).mono ?_);rintro e w' ⟨rfl,rfl⟩))
  go_ret
  exact ⟨rfl,hb⟩
theorem zeV (nm:ByteArray) (k:Int) (n:NumM) (c49 c50 c51 c52:Value) (cs:List Value) (hcs:cs=zbd nm k n c49 c50 c51 c52) (h:NumbersF n) (w:World):Calls D 139 #[.agg cs.toArray] w (zaG true w):=by
 have q36:=rq w hcs 36 rfl;have q37:=rq w hcs 37 rfl;have q38:=rq w hcs 38 rfl;have q45:=rq w hcs 45 rfl;have q46:=rq w hcs 46 rfl;have q47:=rq w hcs 47 rfl;have q48:=rq w hcs 48 rfl;have hb:=zaa w (z cs.toArray 60);have hg:w.heap.size<(w.alloc (z cs.toArray 60)).heap.size:=by simp
 clear hcs
 have hs:((n.shots == 0)=true∧(n.dead != 0)=false∧(n.reclaim != 0)=false)∨((n.shots == 0)=false∧1≤n.shots∧n.shots≤3∧1≤n.dead∧n.dead≤100∧1≤n.reclaim∧n.reclaim≤1000):=by
  have h1:=h.shots;simp only [beq_iff_eq,beq_eq_false_iff_ne,bne_eq_false_iff_eq];omega
 have hd:((n.diff == 0)=true∧(n.num == 0)=true∧(n.den == 0)=true∧(n.harm == 0)=true)∨((n.diff == 0)=false∧1≤n.diff∧n.diff≤16383∧1≤n.den∧n.den≤100∧0≤n.num∧n.num≤n.den∧0≤n.harm∧n.harm≤100):=by
  have h1:=h.diff;simp only [beq_iff_eq,beq_eq_false_iff_ne];omega
 clear h
 rcases hs with ⟨a1,a2,a3⟩ | ⟨a1,a2,a3,a4,a5,a6,a7⟩ <;> rcases hd with ⟨b1,b2,b3,b4⟩ | ⟨b1,b2,b3,b4,b5,b6,b7,b8,b9⟩
 all_goals
  go_enter Tryz.func139,Tryz.ntmps139;go_upto_region 1 with fail
  generalize w.alloc (z cs.toArray 60)=W0 at *;go_wp2_with (first | (go_at_call 157;(with_reducible refine (za9 _ _ _ (by omega) _).mono ?_);rintro e w' ⟨rfl,rfl⟩))
  go_ret
  exact ⟨rfl,hb⟩
theorem zda (x:ElM) (lo:Int) (h:x.Fits lo 500) (w:World):Calls D 158 #[.agg #[C x.on,f l x.a,f l x.b],f l lo] w (zaG true w):=by
 rcases h with ⟨-,h1,h2,h3⟩ | ⟨h0,⟨h1,h2⟩,h3,h4⟩
 · rw [h1,h2,h3]
   go_enter Tryz.func158,Tryz.ntmps158
   go_wp2
   go_ret
   exact ⟨rfl,zaa _ _⟩
 · go_enter Tryz.func158,Tryz.ntmps158
   go_wp2_with (first | (go_at_call 157;(with_reducible refine (za9 _ _ _ ⟨by assumption,by assumption⟩ _).mono ?_);rintro e w' ⟨rfl,rfl⟩))
   go_ret
   exact ⟨rfl,zaa _ _⟩
theorem zd4 (nm:ByteArray) (k:Int) (n:NumM) (c49 c50 c51 c52:Value) (cs:List Value) (hcs:cs=zbd nm k n c49 c50 c51 c52) (h:NumbersF n) (w:World):Calls D 138 #[.agg cs.toArray] w (zaG true w):=by
 have q27:=rq w hcs 27 rfl;have q28:=rq w hcs 28 rfl;have q29:=rq w hcs 29 rfl;have q30:=rq w hcs 30 rfl;have q31:=rq w hcs 31 rfl;have q32:=rq w hcs 32 rfl;have q33:=rq w hcs 33 rfl;have q34:=rq w hcs 34 rfl;have q35:=rq w hcs 35 rfl;have q39:=rq w hcs 39 rfl;have q40:=rq w hcs 40 rfl;have q41:=rq w hcs 41 rfl;have q42:=rq w hcs 42 rfl;have q43:=rq w hcs 43 rfl;have q44:=rq w hcs 44 rfl;have hb:=zaa w (z cs.toArray 60);have hg:w.heap.size<(w.alloc (z cs.toArray 60)).heap.size:=by simp
 have H1:=Hd h.defi;have H2:=Hd h.under;have H3:=Hd h.over;have H4:=Hd h.fail;have hi:=h.inv;clear hcs h
 rcases hi with ⟨-,e1,e2,e3⟩ | ⟨e0,⟨e1,e2⟩,e3,e4⟩
 all_goals
  first | rw [e1] at q30 | skip
  first | (rw [e2] at q31;rw [e3] at q32) | skip
  go_enter Tryz.func138,Tryz.ntmps138;go_upto_region 1 with fail
  generalize w.alloc (z cs.toArray 60)=W0 at *
  go_wp2_with (first
   | (go_at_call 157;(with_reducible refine (za9 _ _ _ ⟨by assumption,by assumption⟩ _).mono ?_);rintro e w' ⟨rfl,rfl⟩)
   | (go_at_call 158;(with_reducible refine (zda n.defi 0 H1.out _).mono ?_);rintro e w1 ⟨rfl,j1⟩;obtain ⟨hc1,hf1⟩:=zcv j1;have g1:=G hg j1.size)
   | (go_at_call 158;(with_reducible refine (zda n.under 0 H2.out _).mono ?_);rintro e w2 ⟨rfl,j2⟩;obtain ⟨hc2,hf2⟩:=zcv j2;have g2:=G g1 j2.size)
   | (go_at_call 158;(with_reducible refine (zda n.over 0 H3.out _).mono ?_);rintro e w3 ⟨rfl,j3⟩;obtain ⟨hc3,hf3⟩:=zcv j3;have g3:=G g2 j3.size)
   | (go_at_call 158;(with_reducible refine (zda n.fail 1 H4.out _).mono ?_);rintro e w4 ⟨rfl,j4⟩))
  go_ret
  exact ⟨rfl,Below.then (Below.then (Below.then (Below.then hb j1) j2) j3) j4⟩
end Go.Proofs.YtjkimieapfbhbaaGreatDoor
