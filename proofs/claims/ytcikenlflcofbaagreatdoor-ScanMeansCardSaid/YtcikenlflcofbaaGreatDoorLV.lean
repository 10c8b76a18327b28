/-
  Operands joined by operators of one level: chain.
-/
import Derived.Test.YtcikenlflcofbaaGreatDoorM1
import Derived.Test.YtcikenlflcofbaaGreatDoorShelf
import Derived.Test.YtcikenlflcofbaaGreatDoorWN
import Derived.Deep.LoopGhost
set_option maxRecDepth 100000
set_option maxHeartbeats 8000000
namespace Go.Proofs.YtcikenlflcofbaaGreatDoor
open Go.RowKit
def exV (op n:Int) (nm:List UInt8) (A:Option Addr) (k c:Nat):Value := .agg #[.int .i64 op,.int .i64 n,.string ⟨nm.toArray⟩,.slice A k c]
def RetEx (pb:Nat) (A:Option Addr) (c:Nat) (L:List Tok) (x:Ex) (i:Nat) (late:Int) (w:World) (e:Ending) (w':World):Prop:=
  ∃ op n nm A' c' ks,x = .mk op n nm ks∧e = .returned (exV op n nm A' ks.length c')∧ks.length≤c'∧c'≤maxLen∧ExP op n nm∧Rw ExV 4 w' (New w w') A' ks.length ks∧Left pb A c L i late w w'∧i<L.length
def RetP (pb:Nat) (A:Option Addr) (c:Nat) (L:List Tok) (r:Except (Int × Int) (Ex × Nat × Int)) (w:World) (e:Ending) (w':World):Prop:=match r with
  | .error (a,er)=>RetStop pb a er w e w'
  | .ok (x,i,late)=>RetEx pb A c L x i late w e w'
def Part (pb:Nat) (A:Option Addr) (c:Nat) (L:List Tok) (K:FuncId) (e:Nat→Int→Res Ex):Prop:=
  ∀ i late w r,PS pb A c L i late w→e i late=some r→Calls Tryz.prog K #[.pointer (some ⟨pb,0,none⟩)] w (RetP pb A c L r w)
theorem zfx (ops:List (List UInt8)) (s:List UInt8):Lib.containsS (ops.map fun l=>(⟨l.toArray⟩:ByteArray)) ⟨s.toArray⟩=ops.contains s:=by
  rw [Bool.eq_iff_iff,Lib.containsS_iff,List.contains_iff_mem];simp
def set4 (w:World) (b:Nat) (v0 v1 v2 v3:Value):World:=(((w.setCell ⟨b,0,none⟩ v0).setCell ⟨b,1,none⟩ v1).setCell ⟨b,2,none⟩ v2).setCell ⟨b,3,none⟩ v3
theorem zb6 {w:World} {b:Nat} {a0 a1 a2 a3:Value} {t:TypeId} (h:w.heap[b]? = some (.cells #[a0,a1,a2,a3] t (0,0))) (v0 v1 v2 v3:Value):(set4 w b v0 v1 v2 v3).heap[b]? = some (.cells #[v0,v1,v2,v3] t (0,0)):=by
  have h0:=heap_setCell_same w b 0 _ _ v0 h;have h1:=heap_setCell_same _ b 1 _ _ v1 h0;have h2:=heap_setCell_same _ b 2 _ _ v2 h1;have h3:=heap_setCell_same _ b 3 _ _ v3 h2;exact h3
theorem zaD (w:World) (b:Nat) (v0 v1 v2 v3:Value):w.grownBy (set4 w b v0 v1 v2 v3) (some b):=(((zaf w b 0 v0).trans (zaf _ b 1 v1)).trans (zaf _ b 2 v2)).trans (zaf _ b 3 v3)
theorem zaz (w:World) (b:Nat) (v0 v1 v2 v3:Value):(set4 w b v0 v1 v2 v3).heap.size=w.heap.size:=by simp [set4]
structure XV (w:World) (b:Nat) (op n:Int) (nm:List UInt8) (A:Option Addr) (k c:Nat):Prop where
  heap:w.heap[b]? = some (.cells #[.int .i64 op,.int .i64 n,.string ⟨nm.toArray⟩,.slice A k c] 48 (0,0))
theorem XV.lt {w:World} {b:Nat} {op n:Int} {nm:List UInt8} {A:Option Addr} {k c:Nat} (h:XV w b op n nm A k c):b<w.heap.size:=(Array.getElem?_eq_some_iff.1 h.heap).1
theorem XV.cells {w:World} {b:Nat} {op n:Int} {nm:List UInt8} {A:Option Addr} {k c:Nat} (h:XV w b op n nm A k c) :
    w.cell? ⟨b,0,none⟩=some (.int .i64 op)∧w.cell? ⟨b,1,none⟩=some (.int .i64 n)∧w.cell? ⟨b,2,none⟩=some (.string ⟨nm.toArray⟩)∧w.cell? ⟨b,3,none⟩=some (.slice A k c) ∧
    w.frozen? ⟨b,0,none⟩=false∧w.frozen? ⟨b,1,none⟩=false∧w.frozen? ⟨b,2,none⟩=false∧w.frozen? ⟨b,3,none⟩=false:=by
  have hh:=h.heap;exact ⟨by simp [World.cell?,hh],by simp [World.cell?,hh],by simp [World.cell?,hh],by simp [World.cell?,hh],Lib.frozen_of_heap hh 0,Lib.frozen_of_heap hh 1,Lib.frozen_of_heap hh 2,Lib.frozen_of_heap hh 3⟩
theorem XV.keep {S:Nat→Prop} {w w':World} {b:Nat} {op n:Int} {nm:List UInt8} {A:Option Addr} {k c:Nat} (h:XV w b op n nm A k c) (hk:KeepOn S w w') (hb:S b):XV w' b op n nm A k c:=⟨(hk b hb).trans h.heap⟩
theorem XV.new (w:World) (op n:Int) (nm:List UInt8) (A:Option Addr) (k c:Nat):XV (w.alloc (.cells #[.int .i64 op,.int .i64 n,.string ⟨nm.toArray⟩,.slice A k c] 48)) w.heap.size op n nm A k c:=⟨heap_alloc_new w _⟩
attribute [local go_sem] zbZ
theorem zcf {w:World} {b o:Nat} {cur:Array Value} {t:TypeId} {cs:List Value} (h:w.heap[b]? = some (.cells cur t (0,0))) (hc:∀ j v,cs[j]? = some v→cur[o+j]? = some v):w.rangeAt b o cs:=by
  intro j v hv;rw [cell_of_row w b (o+j) cur t (0,0) h];exact hc j v hv
theorem zhj {w:World} {S:Nat→Prop} {b:Nat} {x0 x1 x2 x3 y0 y1 y2 y3:Value} {t:TypeId} {x y:Ex} (h:w.heap[b]? = some (.cells #[x0,x1,x2,x3,y0,y1,y2,y3] t (0,0))) (hx:ExV w S [x0,x1,x2,x3] x) (hy:ExV w S [y0,y1,y2,y3] y) (hS:S b) :
    Rw ExV 4 w S (some ⟨b,0,none⟩) 2 [x,y]:=by
  refine ⟨rfl,fun _=>⟨b,0,rfl,hS,fun k z hz => ?_⟩⟩
  match k,hz with
  | 0,hz =>
    cases hz
    refine ⟨_,rfl,hx,zcf h fun j v hv => ?_⟩
    match j,hv with
    | 0,hv | 1,hv | 2,hv | 3,hv=>exact hv
  | 1,hz =>
    cases hz
    refine ⟨_,rfl,hy,zcf h fun j v hv => ?_⟩
    match j,hv with
    | 0,hv | 1,hv | 2,hv | 3,hv=>exact hv
theorem wf64 {z:Int} (h1 : -9223372036854775808≤z) (h2:z≤9223372036854775807):(Lit.int .i64 z).wf=true:=by
  have a:IntKind.i64.min = -9223372036854775808:=by decide
  have b:IntKind.i64.max=9223372036854775807:=by decide
  simp only [Lit.wf,a,b];simp
  omega
theorem Left.put {pb:Nat} {A:Option Addr} {c:Nat} {L:List Tok} {j:Nat} {late:Int} {w w':World} (h:Left pb A c L j late w w') {b:Nat} (hb:w.heap.size≤b) (hne:b≠pb) (v0 v1 v2 v3:Value):Left pb A c L j late w (set4 w' b v0 v1 v2 v3):=by
  have g:=zaD w' b v0 v1 v2 v3;exact ⟨⟨g.os.trans h.1.os,g.tape.trans h.1.tape,g.output.trans h.1.output,Nat.le_trans h.1.size g.size,fun k hk hn=>(g.block k (Nat.lt_of_lt_of_le hk h.1.size) (fun q=>by injection q;omega)).trans (h.1.block k hk hn)⟩,(g.block pb h.lt (fun q=>hne (by injection q with q;exact q.symm))).trans h.2⟩
theorem zg6 (s:List UInt8):(Lit.int .i64 (zal s)).wf=true∧0≤zal s∧zal s≤22:=by
  have key:∀ (l:List (List UInt8)) (k:Int),0≤k→k+l.length≤23→0≤zdE s l k∧zdE s l k≤22:=by
    intro l
    induction l with
    | nil=>intro k _ _;exact ⟨Int.le_refl _,by show (0:Int)≤22;omega⟩
    | cons a l ih =>
      intro k h1 h2;simp only [zdE];simp only [List.length_cons] at h2
      split
      · omega
      · exact ih (k+1) (by omega) (by omega)
  have h:=key zbr 4 (by omega) (by decide);refine ⟨?_,h⟩
  have h1:0≤zal s:=h.1;have h2:zal s≤22:=h.2;generalize zal s=z at *;exact wf64 (by omega) (by omega)
def ChR (w0:World) (pb:Nat) (A:Option Addr) (c:Nat) (L:List Tok) (e:Nat→Int→Res Ex) (ops:List (List UInt8)) (r:Except (Int × Int) (Ex × Nat × Int)) (xb:Nat) (g:Nat) (wr:World):Prop:=
  ∃ op n nm A' c' ks j la,zcp L e ops g (.mk op n nm ks) j la=some r∧ks.length≤c'∧c'≤maxLen∧ExP op n nm∧Rw ExV 4 wr (fun b=>w0.heap.size<b∧b<wr.heap.size∧b≠xb) A' ks.length ks ∧
    XV wr xb op n nm A' ks.length c'∧wr.heap[w0.heap.size]? = some (.cells #[.int .i64 0,.int .i64 0,.string ⟨#[]⟩,.slice Option.none 0 0] 48 (0,0))∧Left pb A c L j la w0 wr∧j<L.length
theorem zcW {pb:Nat} {A:Option Addr} {c:Nat} {L:List Tok} {K:FuncId} {e:Nat→Int→Res Ex} (hP:Part pb A c L K e) (hK:∀ args w,(callFunc K args).run Tryz.prog w = .ok (.enter K args) w)
    (ops:List (List UInt8)) (ob:Nat) (g i:Nat) (late:Int) (w:World) (r:Except (Int × Int) (Ex × Nat × Int)) (hs:PS pb A c L i late w) (hr:zbD L e ops g i late=some r) (ho:ob≠pb) (hob:ob<w.heap.size) (hol:ops.length≤10)
    (hops:∀ j l,ops[j]? = some l→w.cell? ⟨ob,j,none⟩=some (.string ⟨l.toArray⟩)) :
    Calls Tryz.prog 93 #[.pointer (some ⟨pb,0,none⟩),.func (.func K) #[.pointer (some ⟨pb,0,none⟩)] #[],.slice (some ⟨ob,0,none⟩) ops.length ops.length] w (RetP pb A c L r w):=by
  have HP:=Hi hP;have HS:=Hi hs;have HO:=Hi hops;have HR:=Hi hr;clear hP hs hops hr;go_enter Tryz.func93,Tryz.ntmps93;go_wp2_with fail
  have hbox:=zaa w (Obj.cells #[.int .i64 0,.int .i64 0,.string ⟨#[]⟩,.slice Option.none 0 0] 48);have hres:(w.alloc (Obj.cells #[.int .i64 0,.int .i64 0,.string ⟨#[]⟩,.slice Option.none 0 0] 48)).heap[w.heap.size]? = some (.cells #[.int .i64 0,.int .i64 0,.string ⟨#[]⟩,.slice Option.none 0 0] 48 (0,0)):=heap_alloc_new w _;have HRES:=Hi hres;have hpb:=HS.out.ltp;have hgo:=HR.out;unfold zbD at hgo
  cases he:e i late with
  | none=>rw [he] at hgo;cases hgo
  | some r0 =>
  rw [he] at hgo;have C:=HP.out i late _ r0 (HS.out.below hbox) he;have HC:=Hi C;clear C he HR hres
  rcases r0 with ⟨a,er⟩ | ⟨x,j,la⟩
  · obtain rfl:Except.error (a,er)=r:=by injection hgo
    clear hgo
    refine HC.out.mono ?_
    rintro e' w1 ⟨rfl,hg⟩
    refine zai rfl ⟨rfl,?_⟩
    exact (zap hbox).trans hg
  have HG:=Hi (show zcp L e ops g x j la=some r from hgo);clear hgo;refine HC.out.mono ?_
  rintro e' w1 ⟨op,n,nm,A1,c1,ks,rfl,rfl,hc1,hm1,hp1,hr1,hl1,hj⟩
  unfold exV;have HR1:=Hi hr1;have HL1:=Hi hl1;have hs1:=hl1.1.size;simp only [World.size_alloc] at hs1;clear hr1 hl1 HC;go_wp2_with fail
  go_loopg [8,9] g (fun g' _ _ wr=>ChR w pb A c L e ops r w1.heap.size g' wr)
  case atStart =>
    refine ⟨op,n,nm,A1,c1,ks,j,la,HG.out,hc1,hm1,hp1,?_,XV.new w1 op n nm A1 ks.length c1,?_,?_,hj⟩
    · refine HR1.out.mono ExV.mono (fun b hb => ?_) (zab (zaa w1 _) fun b hb=>hb.2)
      have h1:=hb.1
      have h2:=hb.2
      simp only [World.size_alloc] at h1 ⊢
      omega
    · rw [Lib.alloc_old w1 _ _ (by omega),HL1.out.1.block w.heap.size (by simp) (fun h=>by injection h;omega)]
      exact HRES.out
    · exact Left.alloc ⟨(zap hbox).trans HL1.out.1,HL1.out.2⟩ _
  case round =>
    clear HG HR1 HL1 HRES;obtain ⟨op,n,nm,A1,c1,ks,j,la,hmore,hc1,hm1,hp1,hr1,hx1,hres1,hl1,hj⟩:=hrel
    cases gk with
    | zero=>cases hmore
    | succ g' =>
    have hs2:=hl1.1.size;have hps:=HS.out.left hl1 hj;have C1:=zcc hps;have hlx:=hx1.lt;unfold zcp at hmore;have HPS:=Hi hps;have HR1:=Hi hr1;have HX1:=Hi hx1;have HL1:=Hi hl1;have HRES:=Hi hres1;have HM:=Hi hmore
    have hcO:∀ W,KeepOn (fun b=>b=ob) wr W→∀ j,j<(ops.map fun l=>(⟨l.toArray⟩:ByteArray)).length→W.cell? ⟨ob,0+j,none⟩=some (.string ((ops.map fun l=>(⟨l.toArray⟩:ByteArray)).getD j ByteArray.empty)):=by
      intro W hk q hq;rw [List.length_map] at hq;have h1:W.cell? ⟨ob,0+q,none⟩=wr.cell? ⟨ob,0+q,none⟩:=World.cell?_of_block (hk ob rfl);have h2:wr.cell? ⟨ob,0+q,none⟩=w.cell? ⟨ob,0+q,none⟩:=World.cell?_of_block (hl1.1.block ob hob (fun h=>ho (by injection h)));rw [h1,h2,Nat.zero_add,HO.out q _ (List.getElem?_eq_getElem hq)];simp [List.getD_eq_getElem?_getD,hq]
    have C2:=fun W (hb:Below wr.heap.size wr W) => Tryz.slices_Contains_string ob 0 ops.length ops.length (ops.map fun l=>(⟨l.toArray⟩:ByteArray)) ⟨(tk L j).text.toArray⟩ W (by simp) (by omega) (hcO W (zab hb fun b h=>h ▸ (by omega:ob<wr.heap.size)))
    have HC1:=Hi C1;have HC2:=Hi C2;clear hcO;clear hps C1 C2 hr1 hx1 hl1 hres1 hmore;unfold zdC tokV at HC1;have C3:=fun W (hb:Below wr.heap.size wr W)=>zbb (HPS.out.below hb)
    unfold zbm at C3;have hcq:=zfx ops (tk L j).text;obtain ⟨t,ht⟩:∃ t,tk L j=t:=⟨_,rfl⟩;rw [ht] at HC1 HC2 HM hcq C3;have hcq2:Lib.containsS ((ops.map fun l=>(⟨l.toArray⟩:ByteArray)).take ops.length) ⟨t.text.toArray⟩=ops.contains t.text:=by rw [List.take_of_length_le (by simp)];exact hcq
    rw [hcq2] at HC2;have hm:=HM.out;have HC3:=Hi C3;clear ht hcq hcq2 HM C3;generalize ops.contains t.text=bq at *
    cases bq with
    | false =>
      obtain rfl:Except.ok (Ex.mk op n nm ks,j,la)=r:=by injection hm
      clear hm;obtain ⟨x0,x1,x2,x3,-,-,-,-⟩:=HX1.out.cells;go_wp2_with fail
      refine HC1.out.mono ?_
      rintro e' wq ⟨rfl,hb2⟩
      go_wp2_with fail
      refine (HC2.out _ hb2).mono ?_
      rintro e' w2 ⟨rfl,rfl⟩
      have X2:=HX1.out.keep (zab hb2 fun b h=>h) hlx;obtain ⟨y0,y1,y2,y3,-,-,-,-⟩:=X2.cells;have hbs:=hb2.size;have R2:XV w2 w.heap.size 0 0 [] Option.none 0 0:=⟨(hb2.block _ (by omega)).trans HRES.out⟩;obtain ⟨q0,q1,q2,q3,z0,z1,z2,z3⟩:=R2.cells;clear x0 x1 x2 x3;have hK:=zaD w2 w.heap.size (.int .i64 op) (.int .i64 n) (.string ⟨nm.toArray⟩) (.slice A1 ks.length c1);have hH:=zb6 R2.heap (.int .i64 op) (.int .i64 n) (.string ⟨nm.toArray⟩) (.slice A1 ks.length c1);have hZ:=zaz w2 w.heap.size (.int .i64 op) (.int .i64 n) (.string ⟨nm.toArray⟩) (.slice A1 ks.length c1);have HK:=Hi hK;have HH:=Hi hH;have HZ:=Hi hZ;clear hK hH hZ;go_wp2
      change bodyPost _ _ _ _ _ (set4 w2 w.heap.size (.int .i64 op) (.int .i64 n) (.string ⟨nm.toArray⟩) (.slice A1 ks.length c1))
      obtain ⟨W4,hW4⟩:∃ W4,set4 w2 w.heap.size (.int .i64 op) (.int .i64 n) (.string ⟨nm.toArray⟩) (.slice A1 ks.length c1)=W4:=⟨_,rfl⟩;rw [hW4] at HK HH HZ ⊢;have X4:XV W4 w.heap.size op n nm A1 ks.length c1:=⟨HH.out⟩;obtain ⟨r0,r1,r2,r3,-,-,-,-⟩:=X4.cells;refine bodyPost_ret (v:=exV op n nm A1 ks.length c1) (by simp [results,Tryz.results93,go_sem,exV,r0,r1,r2,r3]) rfl ?_
      refine ⟨op,n,nm,A1,c1,ks,rfl,rfl,hc1,hm1,hp1,?_,?_,hj⟩
      · have hz:=HZ.out
        refine HR1.out.mono ExV.mono (fun b hb=>⟨by omega,by omega⟩) ((zab hb2 fun b hb=>hb.2.1).trans (zah HK.out fun b hb=>⟨by omega,fun h=>by injection h;omega⟩))
      · have h3:=HL1.out.below hb2
        exact ⟨⟨HK.out.os.trans h3.1.os,HK.out.tape.trans h3.1.tape,HK.out.output.trans h3.1.output,Nat.le_trans h3.1.size HK.out.size,fun k hk hne=>(HK.out.block k (Nat.lt_of_lt_of_le hk h3.1.size) (fun h=>by injection h;omega)).trans (h3.1.block k hk hne)⟩,(HK.out.block pb h3.lt (fun h=>by injection h;omega)).trans h3.2⟩
    | true =>
      have hpl:pb<wr.heap.size:=by omega
      have hlt':=HPS.out.take_lt
      cases he:e (zaA L j) la with
      | none=>rw [he] at hm;cases hm
      | some r0 =>
      rw [he] at hm;have C5:=fun W (h:PS pb A c L (zaA L j) la W)=>HP.out (zaA L j) la W r0 h he
      have HC5:=Hi C5;have HM:=Hi hm;have C4:=fun W=>zca t.text W
      have hop:=zg6 t.text;generalize zal t.text=opn at *;have HC4:=Hi C4;have HOP:=Hi hop;clear C5 he hm C4 hop;go_wp2_with fail
      refine HC1.out.mono ?_
      rintro e' wq ⟨rfl,hb2⟩
      go_wp2_with fail
      refine (HC2.out _ hb2).mono ?_
      rintro e' w2 ⟨rfl,rfl⟩
      go_wp2_with fail
      refine (HC3.out _ hb2).mono ?_
      rintro e' w3 ⟨rfl,hl3⟩
      unfold tokV;have P3:=(HPS.out.below hb2).left hl3 hlt';have L3:=(HL1.out.below hb2).trans hl3;go_wp2_with fail
      refine (HC4.out _).mono ?_
      rintro e' w4 ⟨rfl,hb4⟩
      have P4:=P3.below hb4;have L4:=L3.below hb4;have K4:KeepOn (fun b=>b<wr.heap.size∧b≠pb) wr w4:=((zab hb2 fun b h=>h.1).trans (zah hl3.1 fun b h=>⟨Nat.lt_of_lt_of_le h.1 hb2.size,fun q=>h.2 (by injection q)⟩)).trans (zab hb4 fun b h=>Nat.lt_of_lt_of_le h.1 (Nat.le_trans hb2.size hl3.1.size));have hs4:wr.heap.size≤w4.heap.size:=Nat.le_trans hb2.size (Nat.le_trans hl3.1.size hb4.size);have HP4:=Hi P4;have HL4:=Hi L4;have HK4:=Hi K4;clear P3 L3 P4 L4 K4 hb2 hb4 hl3 HC1 HC2 HC3 HC4;go_wp2_with fail
      rcases r0 with ⟨a,er⟩ | ⟨y,j2,la2⟩
      · obtain rfl:Except.error (a,er)=r:=by have:=HM.out;injection this
        refine (HC5.out _ HP4.out).mono ?_
        rintro e' w5 ⟨rfl,hg⟩
        refine zai rfl ⟨rfl,?_⟩
        exact HL4.out.1.trans hg
      refine (HC5.out _ HP4.out).mono ?_
      rintro e' w5 ⟨op2,n2,nm2,A2,c2,ks2,rfl,rfl,hc2,hm2,hp2,hr2,hl5,hj2⟩
      unfold exV;have X5:=(HX1.out.keep HK4.out ⟨hlx,by omega⟩).keep (zah hl5.1 (S:=fun b=>b<w4.heap.size∧b≠pb) fun b h=>⟨h.1,fun q=>h.2 (by injection q)⟩) ⟨by omega,by omega⟩;obtain ⟨x0,x1,x2,x3,f0,f1,f2,f3⟩:=X5.cells;have hs5:=hl5.1.size;have hlx5:=X5.lt;have HR2:=Hi hr2;have HL5:=Hi hl5;have HX5:=Hi X5;clear hr2 hl5 X5 HC5;go_wp2;go_roundg g'
      case measure=>omega
      case rel =>
        obtain ⟨V,hV⟩:∃ V,set4 w5 w1.heap.size (.int .i64 opn) (.int .i64 0) (.string ⟨#[]⟩) (.slice (some ⟨w5.heap.size+1,0,none⟩) 2 2)=V:=⟨_,rfl⟩;have gV:=zaD w5 w1.heap.size (.int .i64 opn) (.int .i64 0) (.string ⟨#[]⟩) (.slice (some ⟨w5.heap.size+1,0,none⟩) 2 2);have hV1:=zb6 HX5.out.heap (.int .i64 opn) (.int .i64 0) (.string ⟨#[]⟩) (.slice (some ⟨w5.heap.size+1,0,none⟩) 2 2);have sV:=zaz w5 w1.heap.size (.int .i64 opn) (.int .i64 0) (.string ⟨#[]⟩) (.slice (some ⟨w5.heap.size+1,0,none⟩) 2 2);have lV:=(HL4.out.trans HL5.out).put (b:=w1.heap.size) (by omega) (by omega) (.int .i64 opn) (.int .i64 0) (.string ⟨#[]⟩) (.slice (some ⟨w5.heap.size+1,0,none⟩) 2 2)
        show ChR w pb A c L e ops r w1.heap.size g' (((set4 w5 w1.heap.size (.int .i64 opn) (.int .i64 0) (.string ⟨#[]⟩) (.slice (some ⟨w5.heap.size+1,0,none⟩) 2 2)).alloc _).alloc _)
        rw [hV] at gV hV1 sV lV ⊢;have hpl5:pb<w5.heap.size:=by omega
        have kW:∀ (o1 o2:Obj),KeepOn (fun b=>b<w5.heap.size∧b≠w1.heap.size) w5 ((V.alloc o1).alloc o2):=fun o1 o2 =>
          ((zah gV fun b h=>⟨h.1,fun q=>h.2 (by injection q)⟩).trans (zab (zaa V o1) fun b h=>by omega)).trans (zab (zaa (V.alloc o1) o2) fun b h=>by simp;omega)
        have k5:KeepOn (fun b=>b<w4.heap.size∧b≠pb) w4 w5:=zah HL5.out.1 fun b h=>⟨h.1,fun q=>h.2 (by injection q)⟩
        refine ⟨opn,0,[],some ⟨w5.heap.size+1,0,none⟩,2,[.mk op n nm ks,.mk op2 n2 nm2 ks2],j2,la2,HM.out,Nat.le_refl _,by unfold maxLen;decide,⟨HOP.out.1,by decide,by simp⟩,?_,⟨?_⟩,?_,Left.alloc (Left.alloc lV _) _,hj2⟩
        · refine zhj (x0 := .int .i64 op) (x1 := .int .i64 n) (x2 := .string ⟨nm.toArray⟩) (x3 := .slice A1 ks.length c1) (y0 := .int .i64 op2) (y1 := .int .i64 n2) (y2 := .string ⟨nm2.toArray⟩) (y3 := .slice A2 ks2.length c2) (t := 48) ?_ (ExV.mk hc1 hm1 hp1 ?_) (ExV.mk hc2 hm2 hp2 ?_) ?_
          · have:=heap_alloc_new (V.alloc (Obj.cells #[.int .i64 op2,.int .i64 n2,.string ⟨nm2.toArray⟩,.slice A2 ks2.length c2] 48)) (Obj.cells #[.int .i64 op,.int .i64 n,.string ⟨nm.toArray⟩,.slice A1 ks.length c1,.int .i64 op2,.int .i64 n2,.string ⟨nm2.toArray⟩,.slice A2 ks2.length c2] 48)
            rw [World.size_alloc,sV] at this
            exact this
          · refine HR1.out.mono ExV.mono (fun b h => ?_) (((HK4.out.mono fun b h=>⟨h.2.1,by omega⟩).trans (k5.mono fun b h=>⟨by omega,by omega⟩)).trans ((kW _ _).mono fun b h=>⟨by omega,h.2.2⟩))
            simp only [World.size_alloc]
            omega
          · refine HR2.out.mono ExV.mono (fun b h => ?_) ((kW _ _).mono fun b h=>⟨h.2,by have:=h.1;omega⟩)
            have h1:=h.1
            have h2:=h.2
            simp only [World.size_alloc]
            omega
          · simp only [World.size_alloc]
            omega
        · rw [Lib.alloc_old _ _ _ (by simp;omega),Lib.alloc_old _ _ _ (by omega)]
          exact hV1
        · exact (kW _ _ _ ⟨by omega,by omega⟩).trans ((k5 _ ⟨by omega,by omega⟩).trans ((HK4.out _ ⟨by omega,by omega⟩).trans HRES.out))
end Go.Proofs.YtcikenlflcofbaaGreatDoor
namespace Go.Proofs.YtcikenlflcofbaaGreatDoor
open Go.RowKit
def ZB (w:World) (b:Nat):Prop:=XV w b 0 0 [] Option.none 0 0
theorem ZB.new (w:World):ZB (w.alloc (Obj.cells #[.int .i64 0,.int .i64 0,.string ⟨#[]⟩,.slice Option.none 0 0] 48)) w.heap.size:=XV.new w 0 0 [] Option.none 0 0
theorem RetEx.put {pb:Nat} {A:Option Addr} {c:Nat} {L:List Tok} {w w1:World} {op n:Int} {nm:List UInt8} {A':Option Addr} {c':Nat} {ks:List Ex} {j:Nat} {la:Int} {S:Nat→Prop}
    (h1:ks.length≤c') (h2:c'≤maxLen) (h3:ExP op n nm) (hr:Rw ExV 4 w1 S A' ks.length ks) (hS:∀ b,S b→w.heap.size<b∧b<w1.heap.size) (hl:Left pb A c L j la w w1) (hj:j<L.length) (hp:pb<w.heap.size) :
    RetEx pb A c L (.mk op n nm ks) j la w (.returned (exV op n nm A' ks.length c')) (set4 w1 w.heap.size (.int .i64 op) (.int .i64 n) (.string ⟨nm.toArray⟩) (.slice A' ks.length c')):=by
  have g:=zaD w1 w.heap.size (.int .i64 op) (.int .i64 n) (.string ⟨nm.toArray⟩) (.slice A' ks.length c');have z:=zaz w1 w.heap.size (.int .i64 op) (.int .i64 n) (.string ⟨nm.toArray⟩) (.slice A' ks.length c');refine ⟨op,n,nm,A',c',ks,rfl,rfl,h1,h2,h3,?_,hl.put (Nat.le_refl _) (by omega) _ _ _ _,hj⟩
  refine hr.mono ExV.mono (fun b hb => ?_) (zah g fun b hb=>⟨(hS b hb).2,fun q=>by have:=(hS b hb).1;injection q;omega⟩)
  have:=hS b hb;exact ⟨by omega,by omega⟩
theorem RetStop.pre {pb:Nat} {a er:Int} {w w1 w2:World} {e:Ending} (h:Below w.heap.size w w1) (k:RetStop pb a er w1 e w2):RetStop pb a er w e w2:=⟨k.1,(zap h).trans k.2⟩
theorem Left.pre {pb:Nat} {A:Option Addr} {c:Nat} {L:List Tok} {j:Nat} {late:Int} {w w1 w2:World} (h:Below w.heap.size w w1) (k:Left pb A c L j late w1 w2):Left pb A c L j late w w2:=⟨(zap h).trans k.1,k.2⟩
theorem ZB.left {pb:Nat} {A:Option Addr} {c:Nat} {L:List Tok} {j:Nat} {late:Int} {w1 w2:World} {b:Nat} (h:ZB w1 b) (k:Left pb A c L j late w1 w2) (hne:b≠pb):ZB w2 b:=⟨(k.1.block b (XV.lt h) (fun q=>hne (by injection q))).trans (XV.heap h)⟩
theorem ZB.below {w1 w2:World} {b:Nat} (h:ZB w1 b) (k:Below w1.heap.size w1 w2):ZB w2 b:=⟨(k.block b (XV.lt h)).trans (XV.heap h)⟩
theorem zak {w:World} {b:Nat} (h:ZB w b) (op n:Int) (nm:List UInt8) (A:Option Addr) (k c:Nat):XV (set4 w b (.int .i64 op) (.int .i64 n) (.string ⟨nm.toArray⟩) (.slice A k c)) b op n nm A k c:=⟨zb6 (XV.heap h) _ _ _ _⟩
theorem ziD {pb:Nat} {A:Option Addr} {c:Nat} {L:List Tok} {f:Nat} (hP:Part pb A c L 94 (pLev L f .xor)):Part pb A c L 77 (pLev L (f+1) .expr):=by
  intro i late w r hs hr;have hr':zbD L (pLev L f .xor) [[111, 114]] f i late=some r:=hr;have hmf:∀ (fn:Fn) (first cap:Array Value) (w:World),(Instr.makeFunc fn first cap).run Tryz.prog w = .ok (.func fn first cap) w:=fun _ _ _ _=>rfl
  have hb1:=zaa w (Obj.cells #[.int .i64 0,.int .i64 0,.string ⟨#[]⟩,.slice Option.none 0 0] 48);have hb2:=zaa (w.alloc (Obj.cells #[.int .i64 0,.int .i64 0,.string ⟨#[]⟩,.slice Option.none 0 0] 48)) (Obj.cells #[.string ⟨#[111,114]⟩] 9);have hb:=zac hb1 hb2 hb1.size;have hZ:=(ZB.new w).below hb2;have hpl:=hs.ltp
  have C:=zcW hP (fun _ _=>rfl) [[111, 114]] (w.heap.size+1) f i late _ r (hs.below hb) hr' (by omega) (by simp) (by decide) (by
      intro q l hq
      match q,hq with
        | 0,q=>cases q;go_simp)
  have HC:=Hi C;have HZ:=Hi hZ;clear C hr hr' hP hs hZ;go_enter Tryz.func77,Tryz.ntmps77;go_wp2_with fail
  rcases r with ⟨a,er⟩ | ⟨x,j,la⟩
  · refine HC.out.mono ?_
    rintro e' w1 h1
    obtain ⟨rfl,-⟩:=id h1
    exact zai rfl (RetStop.pre hb h1)
  refine HC.out.mono ?_
  rintro e' w1 ⟨op,n,nm,A1,c1,ks,rfl,rfl,hc1,hm1,hp1,hr1,hl1,hj⟩
  unfold exV;have Z1:=HZ.out.left hl1 (by omega);have hl2:=Left.pre hb hl1;have hsz:=hl1.1.size;obtain ⟨q0,q1,q2,q3,z0,z1,z2,z3⟩:=XV.cells Z1;have HR1:=Hi hr1;have HP:=Hi (zak Z1 op n nm A1 ks.length c1);have HL:=Hi hl2;simp only [World.size_alloc] at hsz;clear hr1 hl1 hl2 Z1 HC HZ hb hb1 hb2;go_wp2
  change bodyPost _ _ _ _ _ (set4 w1 w.heap.size (.int .i64 op) (.int .i64 n) (.string ⟨nm.toArray⟩) (.slice A1 ks.length c1))
  obtain ⟨r0,r1,r2,r3,-,-,-,-⟩:=HP.out.cells;refine bodyPost_ret (v:=exV op n nm A1 ks.length c1) (by simp [results,Tryz.results77,go_sem,exV,r0,r1,r2,r3]) rfl ?_
  refine RetEx.put hc1 hm1 hp1 HR1.out (fun b hb => ?_) HL.out hj hpl
  have h1:=hb.1;have h2:=hb.2;simp only [World.size_alloc] at h1;exact ⟨by omega,h2⟩
theorem zkM {pb:Nat} {A:Option Addr} {c:Nat} {L:List Tok} {f:Nat} (hP:Part pb A c L 107 (pLev L f .conj)):Part pb A c L 94 (pLev L (f+1) .xor):=by
  intro i late w r hs hr;have hr':zbD L (pLev L f .conj) [[120, 111, 114]] f i late=some r:=hr;have hmf:∀ (fn:Fn) (first cap:Array Value) (w:World),(Instr.makeFunc fn first cap).run Tryz.prog w = .ok (.func fn first cap) w:=fun _ _ _ _=>rfl
  have hb1:=zaa w (Obj.cells #[.int .i64 0,.int .i64 0,.string ⟨#[]⟩,.slice Option.none 0 0] 48);have hb2:=zaa (w.alloc (Obj.cells #[.int .i64 0,.int .i64 0,.string ⟨#[]⟩,.slice Option.none 0 0] 48)) (Obj.cells #[.string ⟨#[120,111,114]⟩] 9);have hb:=zac hb1 hb2 hb1.size;have hZ:=(ZB.new w).below hb2;have hpl:=hs.ltp
  have C:=zcW hP (fun _ _=>rfl) [[120, 111, 114]] (w.heap.size+1) f i late _ r (hs.below hb) hr' (by omega) (by simp) (by decide) (by
      intro q l hq
      match q,hq with
        | 0,q=>cases q;go_simp)
  have HC:=Hi C;have HZ:=Hi hZ;clear C hr hr' hP hs hZ;go_enter Tryz.func94,Tryz.ntmps94;go_wp2_with fail
  rcases r with ⟨a,er⟩ | ⟨x,j,la⟩
  · refine HC.out.mono ?_
    rintro e' w1 h1
    obtain ⟨rfl,-⟩:=id h1
    exact zai rfl (RetStop.pre hb h1)
  refine HC.out.mono ?_
  rintro e' w1 ⟨op,n,nm,A1,c1,ks,rfl,rfl,hc1,hm1,hp1,hr1,hl1,hj⟩
  unfold exV;have Z1:=HZ.out.left hl1 (by omega);have hl2:=Left.pre hb hl1;have hsz:=hl1.1.size;obtain ⟨q0,q1,q2,q3,z0,z1,z2,z3⟩:=XV.cells Z1;have HR1:=Hi hr1;have HP:=Hi (zak Z1 op n nm A1 ks.length c1);have HL:=Hi hl2;simp only [World.size_alloc] at hsz;clear hr1 hl1 hl2 Z1 HC HZ hb hb1 hb2;go_wp2
  change bodyPost _ _ _ _ _ (set4 w1 w.heap.size (.int .i64 op) (.int .i64 n) (.string ⟨nm.toArray⟩) (.slice A1 ks.length c1))
  obtain ⟨r0,r1,r2,r3,-,-,-,-⟩:=HP.out.cells;refine bodyPost_ret (v:=exV op n nm A1 ks.length c1) (by simp [results,Tryz.results94,go_sem,exV,r0,r1,r2,r3]) rfl ?_
  refine RetEx.put hc1 hm1 hp1 HR1.out (fun b hb => ?_) HL.out hj hpl
  have h1:=hb.1;have h2:=hb.2;simp only [World.size_alloc] at h1;exact ⟨by omega,h2⟩
theorem zjL {pb:Nat} {A:Option Addr} {c:Nat} {L:List Tok} {f:Nat} (hP:Part pb A c L 114 (pLev L f .neg)):Part pb A c L 107 (pLev L (f+1) .conj):=by
  intro i late w r hs hr;have hr':zbD L (pLev L f .neg) [[97, 110, 100]] f i late=some r:=hr;have hmf:∀ (fn:Fn) (first cap:Array Value) (w:World),(Instr.makeFunc fn first cap).run Tryz.prog w = .ok (.func fn first cap) w:=fun _ _ _ _=>rfl
  have hb1:=zaa w (Obj.cells #[.int .i64 0,.int .i64 0,.string ⟨#[]⟩,.slice Option.none 0 0] 48);have hb2:=zaa (w.alloc (Obj.cells #[.int .i64 0,.int .i64 0,.string ⟨#[]⟩,.slice Option.none 0 0] 48)) (Obj.cells #[.string ⟨#[97,110,100]⟩] 9);have hb:=zac hb1 hb2 hb1.size;have hZ:=(ZB.new w).below hb2;have hpl:=hs.ltp
  have C:=zcW hP (fun _ _=>rfl) [[97, 110, 100]] (w.heap.size+1) f i late _ r (hs.below hb) hr' (by omega) (by simp) (by decide) (by
      intro q l hq
      match q,hq with
        | 0,q=>cases q;go_simp)
  have HC:=Hi C;have HZ:=Hi hZ;clear C hr hr' hP hs hZ;go_enter Tryz.func107,Tryz.ntmps107;go_wp2_with fail
  rcases r with ⟨a,er⟩ | ⟨x,j,la⟩
  · refine HC.out.mono ?_
    rintro e' w1 h1
    obtain ⟨rfl,-⟩:=id h1
    exact zai rfl (RetStop.pre hb h1)
  refine HC.out.mono ?_
  rintro e' w1 ⟨op,n,nm,A1,c1,ks,rfl,rfl,hc1,hm1,hp1,hr1,hl1,hj⟩
  unfold exV;have Z1:=HZ.out.left hl1 (by omega);have hl2:=Left.pre hb hl1;have hsz:=hl1.1.size;obtain ⟨q0,q1,q2,q3,z0,z1,z2,z3⟩:=XV.cells Z1;have HR1:=Hi hr1;have HP:=Hi (zak Z1 op n nm A1 ks.length c1);have HL:=Hi hl2;simp only [World.size_alloc] at hsz;clear hr1 hl1 hl2 Z1 HC HZ hb hb1 hb2;go_wp2
  change bodyPost _ _ _ _ _ (set4 w1 w.heap.size (.int .i64 op) (.int .i64 n) (.string ⟨nm.toArray⟩) (.slice A1 ks.length c1))
  obtain ⟨r0,r1,r2,r3,-,-,-,-⟩:=HP.out.cells;refine bodyPost_ret (v:=exV op n nm A1 ks.length c1) (by simp [results,Tryz.results107,go_sem,exV,r0,r1,r2,r3]) rfl ?_
  refine RetEx.put hc1 hm1 hp1 HR1.out (fun b hb => ?_) HL.out hj hpl
  have h1:=hb.1;have h2:=hb.2;simp only [World.size_alloc] at h1;exact ⟨by omega,h2⟩
theorem zkD {pb:Nat} {A:Option Addr} {c:Nat} {L:List Tok} {f:Nat} (hP:Part pb A c L 130 (pLev L f .prim)):Part pb A c L 126 (pLev L (f+1) .sum):=by
  intro i late w r hs hr;have hr':zbD L (pLev L f .prim) [[43],[45]] f i late=some r:=hr;have hmf:∀ (fn:Fn) (first cap:Array Value) (w:World),(Instr.makeFunc fn first cap).run Tryz.prog w = .ok (.func fn first cap) w:=fun _ _ _ _=>rfl
  have hb1:=zaa w (Obj.cells #[.int .i64 0,.int .i64 0,.string ⟨#[]⟩,.slice Option.none 0 0] 48);have hb2:=zaa (w.alloc (Obj.cells #[.int .i64 0,.int .i64 0,.string ⟨#[]⟩,.slice Option.none 0 0] 48)) (Obj.cells #[.string ⟨#[43]⟩,.string ⟨#[45]⟩] 9);have hb:=zac hb1 hb2 hb1.size;have hZ:=(ZB.new w).below hb2;have hpl:=hs.ltp
  have C:=zcW hP (fun _ _=>rfl) [[43],[45]] (w.heap.size+1) f i late _ r (hs.below hb) hr' (by omega) (by simp) (by decide) (by
      intro q l hq
      match q,hq with
        | 0,q=>cases q;go_simp
        | 1,q=>cases q;go_simp)
  have HC:=Hi C;have HZ:=Hi hZ;clear C hr hr' hP hs hZ;go_enter Tryz.func126,Tryz.ntmps126;go_wp2_with fail
  rcases r with ⟨a,er⟩ | ⟨x,j,la⟩
  · refine HC.out.mono ?_
    rintro e' w1 h1
    obtain ⟨rfl,-⟩:=id h1
    exact zai rfl (RetStop.pre hb h1)
  refine HC.out.mono ?_
  rintro e' w1 ⟨op,n,nm,A1,c1,ks,rfl,rfl,hc1,hm1,hp1,hr1,hl1,hj⟩
  unfold exV;have Z1:=HZ.out.left hl1 (by omega);have hl2:=Left.pre hb hl1;have hsz:=hl1.1.size;obtain ⟨q0,q1,q2,q3,z0,z1,z2,z3⟩:=XV.cells Z1;have HR1:=Hi hr1;have HP:=Hi (zak Z1 op n nm A1 ks.length c1);have HL:=Hi hl2;simp only [World.size_alloc] at hsz;clear hr1 hl1 hl2 Z1 HC HZ hb hb1 hb2;go_wp2
  change bodyPost _ _ _ _ _ (set4 w1 w.heap.size (.int .i64 op) (.int .i64 n) (.string ⟨nm.toArray⟩) (.slice A1 ks.length c1))
  obtain ⟨r0,r1,r2,r3,-,-,-,-⟩:=HP.out.cells;refine bodyPost_ret (v:=exV op n nm A1 ks.length c1) (by simp [results,Tryz.results126,go_sem,exV,r0,r1,r2,r3]) rfl ?_
  refine RetEx.put hc1 hm1 hp1 HR1.out (fun b hb => ?_) HL.out hj hpl
  have h1:=hb.1;have h2:=hb.2;simp only [World.size_alloc] at h1;exact ⟨by omega,h2⟩
end Go.Proofs.YtcikenlflcofbaaGreatDoor
namespace Go.Proofs.YtcikenlflcofbaaGreatDoor
open Go.RowKit
attribute [local go_sem] zbZ
theorem zk2 {w:World} {S:Nat→Prop} {b:Nat} {x0 x1 x2 x3:Value} {t:TypeId} {x:Ex} (h:w.heap[b]? = some (.cells #[x0,x1,x2,x3] t (0,0))) (hx:ExV w S [x0,x1,x2,x3] x) (hS:S b) :
    Rw ExV 4 w S (some ⟨b,0,none⟩) 1 [x]:=by
  refine ⟨rfl,fun _=>⟨b,0,rfl,hS,fun k z hz => ?_⟩⟩
  match k,hz with
  | 0,hz =>
    cases hz
    refine ⟨_,rfl,hx,zcf h fun j v hv => ?_⟩
    match j,hv with
    | 0,hv | 1,hv | 2,hv | 3,hv=>exact hv
theorem zlL {pb:Nat} {A:Option Addr} {c:Nat} {L:List Tok} {w w1:World} {op n:Int} {nm:List UInt8} {A':Option Addr} {c':Nat} {ks:List Ex} {j:Nat} {la:Int} {S:Nat→Prop} (opn:Int) (hop:(Lit.int .i64 opn).wf=true)
    (h1:ks.length≤c') (h2:c'≤maxLen) (h3:ExP op n nm) (hr:Rw ExV 4 w1 S A' ks.length ks) (hS:∀ b,S b→w.heap.size<b∧b<w1.heap.size) (hl:Left pb A c L j la w w1) (hj:j<L.length) (hp:pb<w.heap.size) (hw:w.heap.size<w1.heap.size) :
    RetEx pb A c L (.mk opn 0 [] [.mk op n nm ks]) j la w (.returned (exV opn 0 [] (some ⟨w1.heap.size,0,none⟩) 1 1))
      ((set4 w1 w.heap.size (.int .i64 opn) (.int .i64 0) (.string ⟨#[]⟩) (.slice (some ⟨w1.heap.size,0,none⟩) 1 1)).alloc (.cells #[.int .i64 op,.int .i64 n,.string ⟨nm.toArray⟩,.slice A' ks.length c'] 48)):=by
  have g:=zaD w1 w.heap.size (.int .i64 opn) (.int .i64 0) (.string ⟨#[]⟩) (.slice (some ⟨w1.heap.size,0,none⟩) 1 1);have z:=zaz w1 w.heap.size (.int .i64 opn) (.int .i64 0) (.string ⟨#[]⟩) (.slice (some ⟨w1.heap.size,0,none⟩) 1 1);refine ⟨opn,0,[],some ⟨w1.heap.size,0,none⟩,1,[.mk op n nm ks],rfl,rfl,Nat.le_refl _,by unfold maxLen;decide,⟨hop,by decide,by simp⟩,?_,(hl.put (Nat.le_refl _) (by omega) _ _ _ _).alloc _,hj⟩
  generalize set4 w1 w.heap.size (.int .i64 opn) (.int .i64 0) (.string ⟨#[]⟩) (.slice (some ⟨w1.heap.size,0,none⟩) 1 1)=V at *;have hh:=heap_alloc_new V (.cells #[.int .i64 op,.int .i64 n,.string ⟨nm.toArray⟩,.slice A' ks.length c'] 48);rw [z] at hh;refine zk2 hh (ExV.mk h1 h2 h3 ?_) ⟨by omega,by simp;omega⟩
  refine hr.mono ExV.mono (fun b hb => ?_) ((zah g fun b hb=>⟨(hS b hb).2,fun q=>by have:=(hS b hb).1;injection q;omega⟩).trans (zab (zaa V _) fun b hb=>by have:=hS b hb;omega))
  have:=hS b hb;refine ⟨by omega,?_⟩
  simp only [World.size_alloc];omega
theorem zlM {pb:Nat} {A:Option Addr} {c:Nat} {L:List Tok} {w w1:World} {op n:Int} {nm:List UInt8} {A':Option Addr} {c':Nat} {ks:List Ex} {op2 n2:Int} {nm2:List UInt8} {A2:Option Addr} {c2:Nat} {ks2:List Ex} {j:Nat} {la:Int} {S:Nat→Prop} (opn:Int) (hop:(Lit.int .i64 opn).wf=true)
    (h1:ks.length≤c') (h2:c'≤maxLen) (h3:ExP op n nm) (hr:Rw ExV 4 w1 S A' ks.length ks) (k1:ks2.length≤c2) (k2:c2≤maxLen) (k3:ExP op2 n2 nm2) (kr:Rw ExV 4 w1 S A2 ks2.length ks2)
    (hS:∀ b,S b→w.heap.size<b∧b<w1.heap.size) (hl:Left pb A c L j la w w1) (hj:j<L.length) (hp:pb<w.heap.size) (hw:w.heap.size<w1.heap.size) (o:Obj) :
    RetEx pb A c L (.mk opn 0 [] [.mk op n nm ks,.mk op2 n2 nm2 ks2]) j la w (.returned (exV opn 0 [] (some ⟨w1.heap.size+1,0,none⟩) 2 2))
      (((set4 w1 w.heap.size (.int .i64 opn) (.int .i64 0) (.string ⟨#[]⟩) (.slice (some ⟨w1.heap.size+1,0,none⟩) 2 2)).alloc o).alloc (.cells #[.int .i64 op,.int .i64 n,.string ⟨nm.toArray⟩,.slice A' ks.length c',.int .i64 op2,.int .i64 n2,.string ⟨nm2.toArray⟩,.slice A2 ks2.length c2] 48)):=by
  have g:=zaD w1 w.heap.size (.int .i64 opn) (.int .i64 0) (.string ⟨#[]⟩) (.slice (some ⟨w1.heap.size+1,0,none⟩) 2 2);have z:=zaz w1 w.heap.size (.int .i64 opn) (.int .i64 0) (.string ⟨#[]⟩) (.slice (some ⟨w1.heap.size+1,0,none⟩) 2 2);refine ⟨opn,0,[],some ⟨w1.heap.size+1,0,none⟩,2,[.mk op n nm ks,.mk op2 n2 nm2 ks2],rfl,rfl,Nat.le_refl _,by unfold maxLen;decide,⟨hop,by decide,by simp⟩,?_,((hl.put (Nat.le_refl _) (by omega) _ _ _ _).alloc _).alloc _,hj⟩
  generalize set4 w1 w.heap.size (.int .i64 opn) (.int .i64 0) (.string ⟨#[]⟩) (.slice (some ⟨w1.heap.size+1,0,none⟩) 2 2)=V at *;have hh:=heap_alloc_new (V.alloc o) (.cells #[.int .i64 op,.int .i64 n,.string ⟨nm.toArray⟩,.slice A' ks.length c',.int .i64 op2,.int .i64 n2,.string ⟨nm2.toArray⟩,.slice A2 ks2.length c2] 48);rw [World.size_alloc,z] at hh;have kW:∀ o2,KeepOn S w1 ((V.alloc o).alloc o2):=fun o2=>((zah g fun b hb=>⟨(hS b hb).2,fun q=>by have:=(hS b hb).1;injection q;omega⟩).trans (zab (zaa V _) fun b hb=>by have:=hS b hb;omega)).trans (zab (zaa (V.alloc o) o2) fun b hb=>by have:=hS b hb;simp;omega)
  have sW:∀ o2 b,S b→New w ((V.alloc o).alloc o2) b:=fun o2 b hb=>by
    have:=hS b hb;refine ⟨by omega,?_⟩
    simp only [World.size_alloc];omega
  exact zhj hh (ExV.mk h1 h2 h3 (hr.mono ExV.mono (sW _) (kW _))) (ExV.mk k1 k2 k3 (kr.mono ExV.mono (sW _) (kW _))) ⟨by omega,by simp;omega⟩
theorem Res.go_some {α β:Type} {r:Res α} {f:α→Nat→Int→Res β} {v:Except (Int × Int) (β × Nat × Int)} (h:r.go f=some v):(∃ a er,r=some (.error (a,er))∧v = .error (a,er))∨(∃ x i la,r=some (.ok (x,i,la))∧f x i la=some v):=by
  unfold Res.go at h
  split at h
  · cases h
  · rename_i e;obtain ⟨a,er⟩:=e;cases h;exact .inl ⟨a,er,rfl,rfl⟩
  · rename_i x i la;exact .inr ⟨x,i,la,rfl,h⟩
theorem zj6 {pb:Nat} {A:Option Addr} {c:Nat} {L:List Tok} {f:Nat} (hN:Part pb A c L 114 (pLev L f .neg)) (hR:Part pb A c L 121 (pLev L f .rel)) :
    Part pb A c L 114 (pLev L (f+1) .neg):=by
  intro i late w r hs hr;unfold pLev at hr;have hb1:=zaa w (Obj.cells #[.int .i64 0,.int .i64 0,.string ⟨#[]⟩,.slice Option.none 0 0] 48);have hZ:=ZB.new w;have hpl:=hs.ltp;have hps:=hs.below hb1;have C1:=zcc hps;have C2:=fun W hb=>zbb (hps.below (w':=W) hb)
  have hlt:=hs.take_lt;unfold zdC at C1;unfold zbm at C2;unfold isT at hr;have HN:=Hi hN;have HR:=Hi hR;have HPS:=Hi hps;have HZ:=Hi hZ;clear hN hR hs hps hZ;generalize tk L i=t at *;have HC1:=Hi C1;have HC2:=Hi C2;clear C1 C2
  cases hq:(t.text == [110, 111, 116]) with
  | false =>
    rw [hq] at hr;have hr2:pLev L f .rel i late=some r:=hr;have C:=fun W (h:PS pb A c L i late W)=>HR.out i late W r h hr2
    have HC:=Hi C;clear C hr hr2;go_enter Tryz.func114,Tryz.ntmps114;go_wp2_with fail
    refine HC1.out.mono ?_
    rintro e' w2 ⟨rfl,hb2⟩
    unfold tokV;have hb:=zac hb1 hb2 hb1.size;have Z2:=HZ.out.below hb2;have HP2:=Hi (HPS.out.below hb2);have hs2:=hb.size;go_wp2_with fail
    rcases r with ⟨a,er⟩ | ⟨x,j,la⟩
    · refine (HC.out _ HP2.out).mono ?_
      rintro e' w1 h1
      obtain ⟨rfl,-⟩:=id h1
      exact zai rfl (RetStop.pre hb h1)
    refine (HC.out _ HP2.out).mono ?_
    rintro e' w1 ⟨op,n,nm,A1,c1,ks,rfl,rfl,hc1,hm1,hp1,hr1,hl1,hj⟩
    unfold exV;have Z1:=Z2.left hl1 (by omega);have hsb:=hb2.size;have hl2:=Left.pre hb hl1;have hsz:=hl1.1.size;obtain ⟨q0,q1,q2,q3,z0,z1,z2,z3⟩:=XV.cells Z1;have HR1:=Hi hr1;have HP:=Hi (zak Z1 op n nm A1 ks.length c1);have HL:=Hi hl2;simp only [World.size_alloc] at hsb;clear hr1 hl1 hl2 Z1 Z2 HC HZ hb hb1 hb2 hq HC1 HC2 HP2;go_wp2
    change bodyPost _ _ _ _ _ (set4 w1 w.heap.size (.int .i64 op) (.int .i64 n) (.string ⟨nm.toArray⟩) (.slice A1 ks.length c1))
    obtain ⟨r0,r1,r2,r3,-,-,-,-⟩:=HP.out.cells;refine bodyPost_ret (v:=exV op n nm A1 ks.length c1) (by simp [results,Tryz.results114,go_sem,exV,r0,r1,r2,r3]) rfl ?_
    refine RetEx.put hc1 hm1 hp1 HR1.out (fun b hb => ?_) HL.out hj hpl
    have h1:=hb.1;exact ⟨by omega,hb.2⟩
  | true =>
    rw [hq] at hr;simp only [if_true] at hr;go_enter Tryz.func114,Tryz.ntmps114;have HRR:=Hi hr;clear hr;go_wp2_with fail
    refine HC1.out.mono ?_
    rintro e' w2 ⟨rfl,hb2⟩
    unfold tokV;have hb:=zac hb1 hb2 hb1.size;have Z2:=HZ.out.below hb2;have hsb:=hb2.size;go_wp2_with fail
    refine (HC2.out _ hb2).mono ?_
    rintro e' w3 ⟨rfl,hl3⟩
    unfold tokV;have P3:=(HPS.out.below hb2).left hl3 hlt;have Z3:=Z2.left hl3 (by omega);have L3:=Left.pre hb hl3;have hs3:=hl3.1.size;simp only [World.size_alloc] at hsb;have HP3:=Hi P3;have HL3:=Hi L3;clear P3 L3 hl3 hb hb1 hb2 Z2 HC1 HC2 HPS HZ;go_wp2_with fail
    rcases Res.go_some HRR.out with ⟨a,er,h1,rfl⟩ | ⟨x,j,la,h1,h2⟩
    · refine (HN.out _ _ _ _ HP3.out h1).mono ?_
      rintro e' w1 ⟨rfl,hg⟩
      exact zai rfl ⟨rfl,HL3.out.1.trans hg⟩
    obtain rfl:Except.ok (Ex.mk 4 0 [] [x],j,la)=r:=by injection h2
    clear h2 HRR;refine (HN.out _ _ _ _ HP3.out h1).mono ?_
    rintro e' w1 ⟨op,n,nm,A1,c1,ks,rfl,rfl,hc1,hm1,hp1,hr1,hl1,hj⟩
    unfold exV;have Z1:=Z3.left hl1 (by omega);obtain ⟨q0,q1,q2,q3,z0,z1,z2,z3⟩:=XV.cells Z1;have hsz:=hl1.1.size;have HR1:=Hi hr1;have HZ1:=Hi Z1;have HL:=Hi (HL3.out.trans hl1);have hzl:=XV.lt Z1;clear hr1 hl1 Z1 Z3 h1 hq HP3;have HPT:=Hi (zak HZ1.out 4 0 [] (some ⟨w1.heap.size,0,none⟩) 1 1);go_wp2;have hE:=zlL 4 (by decide) hc1 hm1 hp1 HR1.out (fun b hb=>by have:=hb.1;exact ⟨by omega,hb.2⟩) HL.out hj hpl hzl;obtain ⟨r0,r1,r2,r3,-,-,-,-⟩:=HPT.out.cells;have hsz4:=zaz w1 w.heap.size (.int .i64 4) (.int .i64 0) (.string ⟨#[]⟩) (.slice (some ⟨w1.heap.size,0,none⟩) 1 1)
    change bodyPost _ _ _ _ _ ((set4 w1 w.heap.size (.int .i64 4) (.int .i64 0) (.string ⟨#[]⟩) (.slice (some ⟨w1.heap.size,0,none⟩) 1 1)).alloc _)
    have hlt4:w.heap.size<(set4 w1 w.heap.size (.int .i64 4) (.int .i64 0) (.string ⟨#[]⟩) (.slice (some ⟨w1.heap.size,0,none⟩) 1 1)).heap.size:=by omega
    refine bodyPost_ret (v:=exV 4 0 [] (some ⟨w1.heap.size,0,none⟩) 1 1) ?_ rfl hE
    generalize set4 w1 w.heap.size (.int .i64 4) (.int .i64 0) (.string ⟨#[]⟩) (.slice (some ⟨w1.heap.size,0,none⟩) 1 1)=V at *;simp [results,Tryz.results114,go_sem,exV,r0,r1,r2,r3,hlt4]
end Go.Proofs.YtcikenlflcofbaaGreatDoor
namespace Go.Proofs.YtcikenlflcofbaaGreatDoor
open Go.RowKit
attribute [local go_sem] zbZ
theorem zjm (s:List UInt8):([[60],[62],[61]].contains s=false∧(s == [60])=false∧(s == [62])=false∧(s == [61])=false) ∨
    ([[60],[62],[61]].contains s=true∧((s == [60])=true∨((s == [60])=false∧(s == [62])=true)∨((s == [60])=false∧(s == [62])=false∧(s == [61])=true))):=by
  simp only [List.contains_cons,List.contains_nil,Bool.or_false]
  cases (s == [60]) <;> cases (s == [62]) <;> cases (s == [61]) <;> simp
theorem XV.grown {w w':World} {row:Option Nat} {b:Nat} {op n:Int} {nm:List UInt8} {A:Option Addr} {k c:Nat} (h:XV w b op n nm A k c) (hg:w.grownBy w' row) (hb:some b≠row):XV w' b op n nm A k c:=⟨(hg.block b h.lt hb).trans h.heap⟩
theorem zkn {pb:Nat} {A:Option Addr} {c:Nat} {L:List Tok} {f:Nat} (hP:Part pb A c L 126 (pLev L f .sum)) :
    Part pb A c L 121 (pLev L (f+1) .rel):=by
  intro i late w r hs hr;unfold pLev at hr;have hb1:=zaa w (Obj.cells #[.int .i64 0,.int .i64 0,.string ⟨#[]⟩,.slice Option.none 0 0] 48);have hZ:=ZB.new w;have hpl:=hs.ltp;have hps:=hs.below hb1;have HP:=Hi hP;have HPS:=Hi hps;have HZ:=Hi hZ;have HR:=Hi hr;clear hP hs hps hZ hr;go_enter Tryz.func121,Tryz.ntmps121;go_wp2_with fail
  rcases Res.go_some HR.out with ⟨a,er,h1,rfl⟩ | ⟨x,j,la,h1,h2⟩
  · refine (HP.out _ _ _ _ HPS.out h1).mono ?_
    rintro e' w1 h1
    obtain ⟨rfl,-⟩:=id h1
    exact zai rfl (RetStop.pre hb1 h1)
  have H2:=Hi h2;clear h2 HR;refine (HP.out _ _ _ _ HPS.out h1).mono ?_
  rintro e' w1 ⟨op,n,nm,A1,c1,ks,rfl,rfl,hc1,hm1,hp1,hr1,hl1,hj⟩
  unfold exV;have hbx:=zaa w1 (Obj.cells #[.int .i64 op,.int .i64 n,.string ⟨nm.toArray⟩,.slice A1 ks.length c1] 48);have hs1:=hl1.1.size;have HL1:=Hi hl1;have HR1:=Hi hr1;have HZ1:=Hi (HZ.out.left hl1 (by omega));have hps1:=(HPS.out.left hl1 hj).below hbx;have hlt:=hps1.take_lt;have C1:=zcc hps1;have C2:=fun W hb=>zbb (hps1.below (w':=W) hb)
  unfold zdC at C1;unfold zbm at C2;have HC1:=Hi C1;have HC2:=Hi C2;have HPS1:=Hi hps1;simp only [World.size_alloc] at hs1;clear hl1 hr1 C1 C2 hps1 HZ HPS h1;obtain ⟨t,ht⟩:∃ t,tk L j=t:=⟨_,rfl⟩;rw [ht] at HC1 HC2 H2;clear ht
  rcases zjm t.text with ⟨hq,q1,q2,q3⟩ | ⟨hq,hits⟩
  · have h2:=H2.out
    rw [hq] at h2
    obtain rfl:Except.ok (Ex.mk op n nm ks,j,la)=r:=by injection h2
    clear h2 H2 hq
    go_wp2_with fail
    refine HC1.out.mono ?_
    rintro e' w2 ⟨rfl,hb2⟩
    unfold tokV
    have Z2:=(HZ1.out.below hbx).below hb2
    have X2:=(XV.new w1 op n nm A1 ks.length c1).grown (zap (row:=Option.none) hb2) (by simp)
    have hs2:=hb2.size
    simp only [World.size_alloc] at hs2
    have HL:=Hi (Left.below (Left.below (Left.pre hb1 HL1.out) hbx) hb2)
    obtain ⟨q0,q1',q2',q3',z0,z1,z2,z3⟩:=XV.cells Z2
    obtain ⟨x0,x1,x2,x3,-,-,-,-⟩:=X2.cells
    have HPT:=Hi (zak Z2 op n nm A1 ks.length c1)
    have HK:=Hi ((zab hbx fun b (hb:b<w1.heap.size)=>hb).trans (zab hb2 fun b (hb:b<w1.heap.size)=>by simp;omega))
    clear Z2 X2 hb2 HC1 HC2 hbx HL1 HZ1
    go_wp2
    change bodyPost _ _ _ _ _ (set4 w2 w.heap.size (.int .i64 op) (.int .i64 n) (.string ⟨nm.toArray⟩) (.slice A1 ks.length c1))
    obtain ⟨r0,r1,r2,r3,-,-,-,-⟩:=HPT.out.cells
    refine bodyPost_ret (v:=exV op n nm A1 ks.length c1) (by simp [results,Tryz.results121,go_sem,exV,r0,r1,r2,r3]) rfl ?_
    refine RetEx.put (S:=fun b=>w.heap.size<b∧b<w1.heap.size) hc1 hm1 hp1 (HR1.out.mono ExV.mono (fun b hb => ?_) (HK.out.mono fun b hb=>hb.2)) (fun b hb=>by omega) HL.out hj hpl
    have h1:=hb.1
    simp only [World.size_alloc] at h1
    exact ⟨by omega,hb.2⟩
  · have h2:=H2.out
    rw [hq] at h2
    simp only [if_true] at h2
    have H3:=Hi h2
    have HOP:=Hi (zg6 t.text)
    have C3:=fun W=>zca t.text W
    have HC3:=Hi C3
    clear h2 H2 hq C3
    rcases hits with q1 | ⟨q1,q2⟩ | ⟨q1,q2,q3⟩
    all_goals
      go_wp2_with fail
      refine HC1.out.mono ?_
      rintro e' w2 ⟨rfl,hb2⟩
      unfold tokV
      have Z2:=(HZ1.out.below hbx).below hb2
      have X2:=(XV.new w1 op n nm A1 ks.length c1).grown (zap (row:=Option.none) hb2) (by simp)
      have G2:=(zap (row:=some pb) hbx).trans (zap hb2)
      have L2:=Left.below (Left.below (Left.pre hb1 HL1.out) hbx) hb2
      have hs2:=hb2.size
      simp only [World.size_alloc] at hs2
      have HZ2:=Hi Z2
      have HX2:=Hi X2
      have HG2:=Hi G2
      have HL2:=Hi L2
      clear Z2 X2 G2 L2
      go_wp2_with fail
      refine (HC2.out _ hb2).mono ?_
      rintro e' w3 ⟨rfl,hl3⟩
      unfold tokV
      have hs3:=hl3.1.size
      have HZ3:=Hi (HZ2.out.left hl3 (by omega))
      have HX3:=Hi (HX2.out.grown hl3.1 (by intro h;injection h;omega))
      have HG3:=Hi (HG2.out.trans hl3.1)
      have HL3:=Hi (HL2.out.trans hl3)
      have HP3:=Hi ((HPS1.out.below hb2).left hl3 hlt)
      clear hl3 HZ2 HX2 HG2 HL2 hb2
      go_wp2_with fail
      refine (HC3.out _).mono ?_
      rintro e' w4 ⟨rfl,hb4⟩
      have hs4:=hb4.size
      have HZ4:=Hi (HZ3.out.below hb4)
      have HX4:=Hi (HX3.out.grown (zap (row:=Option.none) hb4) (by simp))
      have HG4:=Hi (HG3.out.trans (zap hb4))
      have HL4:=Hi (HL3.out.below hb4)
      have HP4:=Hi (HP3.out.below hb4)
      clear hb4 HZ3 HX3 HG3 HL3 HP3
      go_wp2_with fail
      rcases Res.go_some H3.out with ⟨a,er,h1,rfl⟩ | ⟨y,j2,la2,h1,h2⟩
      · refine (HP.out _ _ _ _ HP4.out h1).mono ?_
        rintro e' w5 ⟨rfl,hg⟩
        exact zai rfl ⟨rfl,HL4.out.1.trans hg⟩
      obtain rfl:Except.ok (Ex.mk (zal t.text) 0 [] [.mk op n nm ks,y],j2,la2)=r:=by injection h2
      clear h2 H3
      refine (HP.out _ _ _ _ HP4.out h1).mono ?_
      rintro e' w5 ⟨op2,n2,nm2,A2,c2,ks2,rfl,rfl,hc2,hm2,hp2,hr2,hl2,hj2⟩
      unfold exV
      have hs5:=hl2.1.size
      have Z5:=HZ4.out.left hl2 (by omega)
      have X5:=HX4.out.grown hl2.1 (by intro h;injection h;omega)
      have HG5:=Hi (HG4.out.trans hl2.1)
      have HL5:=Hi (HL4.out.trans hl2)
      have HR2:=Hi hr2
      obtain ⟨p0,p1,p2,p3,z0,z1,z2,z3⟩:=XV.cells Z5
      obtain ⟨x0,x1,x2,x3,-,-,-,-⟩:=X5.cells
      have hzl:=XV.lt Z5
      have hxl:=X5.lt
      have HPT:=Hi (zak Z5 (zal t.text) 0 [] (some ⟨w5.heap.size+1,0,none⟩) 2 2)
      clear hl2 hr2 HG4 HL4 HZ4 HX4 HP4 h1 HC1 HC2 HC3 hbx hb1 Z5 X5 HL1 HZ1
      generalize hopn:zal t.text=opn at *
      clear hopn
      go_wp2
      have hE:=zlM (S:=fun b=>w.heap.size<b∧b<w5.heap.size) (w:=w) (w1:=w5) opn HOP.out.1 hc1 hm1 hp1
        (HR1.out.mono ExV.mono (fun b hb=>by have h1:=hb.1;have h2:=hb.2;simp only [World.size_alloc] at h1;omega) (zah HG5.out fun b hb=>⟨hb.2,fun q=>by have h1:=hb.1;simp only [World.size_alloc] at h1;injection q;omega⟩))
        hc2 hm2 hp2 (HR2.out.mono ExV.mono (fun b hb=>by have h1:=hb.1;have h2:=hb.2;omega) (KeepOn.refl _ _)) (fun b hb=>hb) HL5.out hj2 hpl hzl (Obj.cells #[.int .i64 op2,.int .i64 n2,.string ⟨nm2.toArray⟩,.slice A2 ks2.length c2] 48)
      obtain ⟨r0,r1,r2,r3,-,-,-,-⟩:=HPT.out.cells
      have hsz4:=zaz w5 w.heap.size (.int .i64 opn) (.int .i64 0) (.string ⟨#[]⟩) (.slice (some ⟨w5.heap.size+1,0,none⟩) 2 2)
      change bodyPost _ _ _ _ _ (((set4 w5 w.heap.size (.int .i64 opn) (.int .i64 0) (.string ⟨#[]⟩) (.slice (some ⟨w5.heap.size+1,0,none⟩) 2 2)).alloc _).alloc _)
      have hlt4:w.heap.size<(set4 w5 w.heap.size (.int .i64 opn) (.int .i64 0) (.string ⟨#[]⟩) (.slice (some ⟨w5.heap.size+1,0,none⟩) 2 2)).heap.size:=by omega
      refine bodyPost_ret (v:=exV opn 0 [] (some ⟨w5.heap.size+1,0,none⟩) 2 2) ?_ rfl hE
      generalize set4 w5 w.heap.size (.int .i64 opn) (.int .i64 0) (.string ⟨#[]⟩) (.slice (some ⟨w5.heap.size+1,0,none⟩) 2 2)=V at *
      simp [results,Tryz.results121,go_sem,exV,r0,r1,r2,r3,hlt4,Nat.lt_succ_of_lt hlt4]
end Go.Proofs.YtcikenlflcofbaaGreatDoor
namespace Go.Proofs.YtcikenlflcofbaaGreatDoor
open Go.RowKit
structure XL where
  op:Int
  n:Int
  nm:List UInt8
  A:Option Addr
  k:Nat
  c:Nat
def XL.cells (l:XL):List Value:=[.int .i64 l.op,.int .i64 l.n,.string ⟨l.nm.toArray⟩,.slice l.A l.k l.c]
def XOwn (w:World) (base:Nat) (T:Nat→Prop) (v:Value) (xs:List Ex):Prop:=
  ∃ ls:List XL,ls.length=xs.length∧w.ownsRow base 48 4 v xs.length (ls.flatMap XL.cells)∧(∀ (k:Nat) (l:XL) (x:Ex),ls[k]? = some l→xs[k]? = some x→ExV w T l.cells x)∧∀ b,T b→base≤b∧b<w.heap.size∧some b≠v.ownBlock
theorem XOwn.nil (w:World) (base:Nat):XOwn w base (fun _=>False) (.slice Option.none 0 0) []:=⟨[],rfl,⟨rfl,.inl ⟨rfl,rfl⟩⟩,(fun k l x h=>by simp at h),fun _ h=>h.elim⟩
theorem XOwn.shape {w:World} {base:Nat} {T:Nat→Prop} {v:Value} {xs:List Ex} (h:XOwn w base T v xs):∃ A c,v = .slice A xs.length c∧xs.length≤c∧c≤maxLen:=by
  obtain ⟨ls,-,ho,-,-⟩:=h;exact zag ho
theorem XOwn.grown {w w':World} {base q:Nat} {T:Nat→Prop} {v:Value} {xs:List Ex} (h:XOwn w base T v xs) (hg:w.grownBy w' (some q)) (hq:q<base):XOwn w' base T v xs:=by
  obtain ⟨ls,h1,h2,h3,h4⟩:=h;refine ⟨ls,h1,zam h2 (fun g e hgs=>hg.block g hgs (fun he => ?_)),fun k l x hl hx=>ExV.mono _ _ _ _ _ _ (fun _ hb=>hb) (zah hg fun b hb=>⟨(h4 b hb).2.1,fun he => ?_⟩) (h3 k l x hl hx),fun b hb=>⟨(h4 b hb).1,Nat.lt_of_lt_of_le (h4 b hb).2.1 hg.size,(h4 b hb).2.2⟩⟩
  · injection he with he
    have:=(h2.lt g e).1
    omega
  · injection he with he
    have:=(h4 b hb).1
    omega
theorem XOwn.below {w w':World} {base B:Nat} {T:Nat→Prop} {v:Value} {xs:List Ex} (h:XOwn w base T v xs) (hb:Below B w w') (hB:w.heap.size≤B):XOwn w' base T v xs:=by
  obtain ⟨ls,h1,h2,h3,h4⟩:=h;exact ⟨ls,h1,zbg h2 hb hB,fun k l x hl hx=>ExV.mono _ _ _ _ _ _ (fun _ q=>q) (zab hb fun b q=>Nat.lt_of_lt_of_le (h4 b q).2.1 hB) (h3 k l x hl hx),fun b q=>⟨(h4 b q).1,Nat.lt_of_lt_of_le (h4 b q).2.1 hb.size,(h4 b q).2.2⟩⟩
theorem XOwn.lt {w:World} {base:Nat} {T:Nat→Prop} {v:Value} {xs:List Ex} (h:XOwn w base T v xs) {g:Nat} (hg:v.ownBlock=some g):base≤g∧g<w.heap.size:=by
  obtain ⟨ls,h1,h2,h3,h4⟩:=h;exact h2.lt g hg
theorem XOwn.push {w w':World} {base:Nat} {T:Nat→Prop} {v v':Value} {xs:List Ex} {l:XL} {y:Ex} {ls:List XL} (h1:ls.length=xs.length) (h3:∀ (k:Nat) (l:XL) (x:Ex),ls[k]? = some l→xs[k]? = some x→ExV w T l.cells x) (h4:∀ b,T b→base≤b∧b<w.heap.size∧some b≠v.ownBlock)
    (hy:ExV w T l.cells y) (ho:w'.ownsRow base 48 4 v' (xs.length+1) (ls.flatMap XL.cells++l.cells)) (hg:w.grownBy w' v.ownBlock) (hv:v'.ownBlock=v.ownBlock∨v'.ownBlock=some w.heap.size):XOwn w' base T v' (xs++[y]):=by
  have hk:KeepOn T w w':=zah hg fun b hb=>⟨(h4 b hb).2.1,(h4 b hb).2.2⟩
  refine ⟨ls++[l],by simp [h1],?_,fun k l' x hl hx => ?_,fun b hb=>⟨(h4 b hb).1,Nat.lt_of_lt_of_le (h4 b hb).2.1 hg.size,?_⟩⟩
  · rw [List.flatMap_append,List.length_append]
    simpa using ho
  · rcases Nat.lt_or_ge k xs.length with hlt | hge
    · rw [List.getElem?_append_left (by omega)] at hl hx
      exact ExV.mono _ _ _ _ _ _ (fun _ q=>q) hk (h3 k l' x hl hx)
    · have hk0:k=xs.length:=by
        have:=(List.getElem?_eq_some_iff.1 hx).1
        simp at this
        omega
      subst hk0
      rw [List.getElem?_append_right (by omega)] at hl hx
      simp [h1] at hl hx
      subst hl
      subst hx
      exact ExV.mono _ _ _ _ _ _ (fun _ q=>q) hk hy
  · rcases hv with e | e
    · rw [e];exact (h4 b hb).2.2
    · rw [e]
      intro q
      injection q with q
      have:=(h4 b hb).2.1
      omega
theorem XOwn.rw {w:World} {base c:Nat} {T S:Nat→Prop} {A:Option Addr} {n:Nat} {xs:List Ex} (h:XOwn w base T (.slice A n c) xs) (hn:xs.length=n) (hS:∀ b,base≤b→b<w.heap.size→S b):Rw ExV 4 w S A n xs:=by
  obtain ⟨ls,h1,h2,h3,h4⟩:=h;subst hn;have h0:Rw (fun _ _ cs l=>cs=XL.cells l) 4 w S A ls.length ls:=Rw.of_own (f:=XL.cells) (base:=base) (e := 48) (c:=c) (by rw [h1];exact h2) rfl (fun _ _=>rfl) (fun _ _=>rfl) hS;refine ⟨rfl,fun hpos => ?_⟩
  obtain ⟨b,o,e,hb,hr⟩:=h0.2 (by omega);refine ⟨b,o,e,hb,fun k x hx => ?_⟩
  have hk:=(List.getElem?_eq_some_iff.1 hx).1;obtain ⟨cs,hl,rfl,hat⟩:=hr k _ (List.getElem?_eq_getElem (show k<ls.length by omega));exact ⟨_,hl,ExV.mono _ _ _ _ _ _ (fun b q=>hS b (h4 b q).1 (h4 b q).2.1) (KeepOn.refl _ _) (h3 k _ x (List.getElem?_eq_getElem (show k<ls.length by omega)) hx),hat⟩
theorem zeN (l:XL):∀ u∈l.cells,u.oneCell'=true:=by
  intro u hu;simp only [XL.cells,List.mem_cons,List.not_mem_nil,or_false] at hu
  rcases hu with rfl | rfl | rfl | rfl <;> rfl
theorem PS.drew {pb:Nat} {A:Option Addr} {c:Nat} {L:List Tok} {i:Nat} {late:Int} {w:World} (h:PS pb A c L i late w):PS pb A c L i late w.drew:=h.below (zad (Below.refl _ _))
theorem Left.own {pb:Nat} {A:Option Addr} {c:Nat} {L:List Tok} {j:Nat} {late:Int} {w w' w'':World} {row:Option Nat} (h:Left pb A c L j late w w') (hg:w'.grownBy w'' row) (hr:∀ b,row=some b→w.heap.size≤b) (hp:pb<w.heap.size):Left pb A c L j late w w'' :=
  ⟨⟨hg.os.trans h.1.os,hg.tape.trans h.1.tape,hg.output.trans h.1.output,Nat.le_trans h.1.size hg.size,fun k hk hn=>(hg.block k (Nat.lt_of_lt_of_le hk h.1.size) (fun q=>by have:=hr k q.symm;omega)).trans (h.1.block k hk hn)⟩,
    (hg.block pb h.lt (fun q=>by have:=hr pb q.symm;omega)).trans h.2⟩
theorem Left.late {pb:Nat} {A:Option Addr} {c:Nat} {L:List Tok} {j:Nat} {late:Int} {w w':World} (h:Left pb A c L j late w w') (late':Int):Left pb A c L j late' w (w'.setCell ⟨pb,2,none⟩ (.int .i64 late')):=
  ⟨h.1.trans (zaf w' pb 2 _),by have:=heap_setCell_same w' pb 2 _ _ (.int .i64 late') h.2;rw [this];rfl⟩
theorem XV.set1 {w:World} {b:Nat} {op n:Int} {nm:List UInt8} {A:Option Addr} {k c:Nat} (h:XV w b op n nm A k c) (n':Int):XV (w.setCell ⟨b,1,none⟩ (.int .i64 n')) b op n' nm A k c:=⟨by have:=heap_setCell_same w b 1 _ _ (.int .i64 n') h.heap;rw [this];rfl⟩
theorem XV.set3 {w:World} {b:Nat} {op n:Int} {nm:List UInt8} {A:Option Addr} {k c:Nat} (h:XV w b op n nm A k c) (A':Option Addr) (k' c':Nat):XV (w.setCell ⟨b,3,none⟩ (.slice A' k' c')) b op n nm A' k' c':=⟨by have:=heap_setCell_same w b 3 _ _ (.slice A' k' c') h.heap;rw [this];rfl⟩
theorem XV.other {w:World} {b:Nat} {op n:Int} {nm:List UInt8} {A:Option Addr} {k c:Nat} (h:XV w b op n nm A k c) {q i:Nat} (v:Value) (hne:b≠q):XV (w.setCell ⟨q,i,none⟩ v) b op n nm A k c:=h.grown (zaf w q i v) (fun e=>hne (by injection e))
end Go.Proofs.YtcikenlflcofbaaGreatDoor
