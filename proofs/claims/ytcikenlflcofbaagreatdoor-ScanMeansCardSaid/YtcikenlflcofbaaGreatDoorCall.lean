/-
  The operands of an operation that is written with a word: call.
-/
import Derived.Test.YtcikenlflcofbaaGreatDoorLV
import Derived.Test.YtcikenlflcofbaaGreatDoorKRoundP
import Derived.RegionDies
import Derived.Deep.RegionLaw
set_option maxRecDepth 100000
set_option maxHeartbeats 8000000
namespace Go.Proofs.YtcikenlflcofbaaGreatDoor
open Go.RowKit
attribute [local go_sem] zbZ
theorem zjE (op:Int) (w:World):Calls Tryz.prog 138 #[.int .i64 op] w (zex (zbU op) w):=by
  by_cases h1:op=19
  · subst h1
    go_enter Tryz.func138,Tryz.ntmps138
    go_wp2
    go_ret
    exact ⟨rfl,rfl⟩
  by_cases h2:op=20
  · subst h2
    go_enter Tryz.func138,Tryz.ntmps138
    go_wp2
    go_ret
    exact ⟨rfl,rfl⟩
  · have ht:zbU op=false:=by unfold zbU;simp [h1,h2]
    have q1:(op == 19)=false:=by simp [h1]
    have q2:(op == 20)=false:=by simp [h2]
    have HT:=Hi ht
    clear ht h1 h2
    go_enter Tryz.func138,Tryz.ntmps138
    go_wp2
    go_ret
    exact ⟨zae HT.out.symm,rfl⟩
theorem zg0 {α β γ:Type} (r:Res α) (f:α→Nat→Int→Res β) (g:β→Nat→Int→Res γ):(r.go f).go g=r.go fun x i la=>(f x i la).go g:=by
  rcases r with _ | e | ⟨x,i,la⟩ <;> rfl
theorem zlw {α β:Type} (L:List Tok) (s:List UInt8) (i:Nat) (f:Nat→Res α) (g:α→Nat→Int→Res β):(zbd L s i f).go g=zbd L s i fun j=>(f j).go g:=by
  unfold zbd
  split <;> rfl
theorem ZB.of {w:World} {b:Nat} (h:XV w b 0 0 [] Option.none 0 0):ZB w b:=h
theorem zhy:(Tryz.prog.info? 48).map (fun i=>(i.zero,i.size,i.bytes))=some (some (.agg #[.int .i64 0,.int .i64 0,.string ⟨#[]⟩,.slice Option.none 0 0]),4,56):=by kernel_rfl
def zdL (L:List Tok) (op:Int) (ks:List Ex) (i2:Nat) (la:Int):Res Ex:=
  if zbU op then zbd L [44] i2 fun i3 =>
      if (tk L i3).kind=2 then zcT L op (tk L i3).n ks (zaA L i3) (if 500<(tk L i3).n∧la<0 then (tk L i3).pos else la) else zgd L i3
    else zcT L op 0 ks i2 la
def CallR (w0:World) (pb:Nat) (A:Option Addr) (c:Nat) (L:List Tok) (e:Nat→Int→Res Ex) (op:Int) (r:Except (Int × Int) (Ex × Nat × Int)) (ar:Nat) (k:Nat) (v:Value) (wr:World):Prop:=
  ∃ acc m j la A' c' T,(zb4 L e k acc j la).go (zdL L op)=some r∧acc.length=m∧m+k=ar∧v = .int .i64 (m:Int)∧XV wr (w0.heap.size+1) op 0 [] A' m c'∧XOwn wr (w0.heap.size+2) T (.slice A' m c') acc∧ZB wr w0.heap.size∧Left pb A c L j la w0 wr∧j<L.length
def PartC (pb:Nat) (A:Option Addr) (c:Nat) (L:List Tok) (e:Nat→Int→Res Ex):Prop:=
  ∀ op i late w r,13≤op→op≤22→PS pb A c L i late w→zed L e op i late=some r→Calls Tryz.prog 133 #[.pointer (some ⟨pb,0,none⟩),.int .i64 op] w (RetP pb A c L r w)
theorem zin {pb:Nat} {A:Option Addr} {c:Nat} {L:List Tok} {e:Nat→Int→Res Ex} (hP:Part pb A c L 77 e):PartC pb A c L e:=by
  intro op i late w r ho1 ho2 hs hr;have hr':zbd L [40] i (fun i1=>(zb4 L e (zav op).toNat [] i1 late).go (zdL L op))=some r:=hr
  have hb1:=zaa w (Obj.cells #[.int .i64 0,.int .i64 0,.string ⟨#[]⟩,.slice Option.none 0 0] 48);have hb2:=zaa (w.alloc (Obj.cells #[.int .i64 0,.int .i64 0,.string ⟨#[]⟩,.slice Option.none 0 0] 48)) (Obj.cells #[.int .i64 op,.int .i64 0,.string ⟨#[]⟩,.slice Option.none 0 0] 48);have hb:=zac hb1 hb2 hb1.size;have hZ:=(ZB.new w).below hb2;have hX:=XV.new (w.alloc (Obj.cells #[.int .i64 0,.int .i64 0,.string ⟨#[]⟩,.slice Option.none 0 0] 48)) op 0 [] Option.none 0 0;have hpl:=hs.ltp;have hps:=hs.below hb;have hwf:(Lit.int .i64 op).wf=true:=wf64 (by omega) (by omega)
  obtain ⟨ar,har,har1⟩:∃ ar:Nat,zav op=(ar:Int)∧ar≤3:=by
    have hop:op=13∨op=14∨op=15∨op=16∨op=17∨op=18∨op=19∨op=20∨op=21∨op=22:=by omega
    rcases hop with rfl | rfl | rfl | rfl | rfl | rfl | rfl | rfl | rfl | rfl
    all_goals first | exact ⟨1,by decide,by omega⟩ | exact ⟨2,by decide,by omega⟩ | exact ⟨3,by decide,by omega⟩
  have C3:=fun W=>zfq op W
  have C4:=fun W=>zjE op W
  rw [har] at hr' C3;rw [Int.toNat_natCast] at hr';unfold zbd at hr';have HP:=Hi hP;have HZ:=Hi hZ;have HX:=Hi hX;have HWF:=Hi hwf;have HC3:=Hi C3;have HC4:=Hi C4;have hps0:=hps;have HPS:=Hi hps;have HS:=Hi hs;clear hP hs hZ hX hps hr hwf C3 C4 har;rw [World.size_alloc] at HX
  by_cases hq:isT L i [40] = true
  case neg =>
    have hq':isT L i [40] = false:=by simpa using hq
    rw [if_neg hq] at hr';obtain rfl:Except.error ((tk L i).pos,6)=r:=by injection hr'
    have C1:=zcv [40] hps0 hq'
    have HC1:=Hi C1;clear C1 hq hq' hr' hps0;go_enter Tryz.func133,Tryz.ntmps133;go_wp2_with fail
    refine HC1.out.mono ?_
    rintro e' w1 h1
    obtain ⟨rfl,-⟩:=id h1;exact zai rfl (RetStop.pre hb h1)
  rw [if_pos hq] at hr';have C1:=zcw [40] hps0 hq
  have hlt:=hps0.take_lt;have HC1:=Hi C1;have HR:=Hi hr';clear C1 hq hr' hps0;go_enter Tryz.func133,Tryz.ntmps133;go_wp2_with fail
  refine HC1.out.mono ?_
  rintro e' w1 ⟨rfl,hl1⟩
  have hs1:=hl1.1.size;simp only [World.size_alloc] at hs1;have HL1:=Hi hl1;clear hl1;go_wp2_with fail
  refine (HC3.out _).mono ?_
  rintro e' w1' ⟨rfl,rfl⟩
  go_wp2_with fail
  go_loopg [6,14] ar (fun k _ v wr=>CallR w pb A c L e op r ar k v wr)
  case atStart =>
    refine ⟨[],0,zaA L i,late,Option.none,0,fun _=>False,HR.out,rfl,by omega,rfl,HX.out.grown HL1.out.1 (by intro h;injection h;omega),XOwn.nil _ _,HZ.out.left HL1.out (by omega),Left.pre hb HL1.out,hlt⟩
  case round =>
    obtain ⟨acc,m,j,la,A',c',T,hgo,hm,hmk,rfl,hx,ho,hz,hl,hj⟩:=hrel;have hps:=HS.out.left hl hj;have hsz:=hl.1.size;have hxl:=hx.lt;clear HR HX HZ HL1 HC1 HPS HC3
    cases gk with
    | zero =>
      have hmlt:¬ m<ar:=by omega
      replace hgo:zdL L op acc j la=some r:=hgo
      unfold zdL at hgo;have C4:=HC4.out;clear HC4
      cases htm:zbU op with
      | false =>
        rw [htm] at hgo C4;rw [if_neg (by decide)] at hgo;have HC4:=Hi C4;have HGO:=Hi hgo;have HWN:=Hi (show (Lit.int .i64 0).wf=true from rfl);have HTM:=Hi htm;have HXW:=Hi hx;have HOW:=Hi ho;have HZW:=Hi hz;have HLW:=Hi hl;have HPSW:=Hi hps;have HM:=Hi hm;clear hgo hx ho hz hl hps hm htm C4;go_wp2_with fail
        refine (HC4.out _).mono ?_
        rintro e' w9 ⟨rfl,rfl⟩
        by_cases hq:isT L j [41] = true
        case neg =>
          have hgo2:=HGO.out;unfold zcT zbd at hgo2;rw [if_neg hq] at hgo2;obtain rfl:Except.error ((tk L j).pos,6)=r:=by injection hgo2
          have HC5:=Hi (zcv [41] HPSW.out (by simpa using hq))
          clear hgo2 hq HGO;go_wp2_with fail
          refine HC5.out.mono ?_
          rintro e' w5 ⟨rfl,hg⟩
          exact zai rfl ⟨rfl,HLW.out.1.trans hg⟩
        have hgo2:=HGO.out;unfold zcT zbd at hgo2;rw [if_pos hq] at hgo2;obtain rfl:Except.ok (Ex.mk op 0 [] acc,zaA L j,la)=r:=by injection hgo2
        have HC5:=Hi (zcw [41] HPSW.out hq)
        have hlt5:=HPSW.out.take_lt;clear hgo2 hq HGO;go_wp2_with fail
        refine HC5.out.mono ?_
        rintro e' w5 ⟨rfl,hl5⟩
        have hs5:=hl5.1.size;have X5:=HXW.out.grown hl5.1 (by intro h;injection h;omega);have Z5:=HZW.out.left hl5 (by omega);have HO5:=Hi (HOW.out.grown hl5.1 (by omega));have HL5:=Hi (HLW.out.trans hl5);obtain ⟨x0,x1,x2,x3,-,-,-,-⟩:=X5.cells;obtain ⟨q0,q1,q2,q3,z0,z1,z2,z3⟩:=XV.cells Z5;have HPT:=Hi (zak Z5 op 0 [] A' m c');have hx5:=X5.lt;clear hl5 X5 Z5 HC5 HXW HZW HOW HLW HPSW;go_wp2
        change bodyPost _ _ _ _ _ (set4 w5 w.heap.size (.int .i64 op) (.int .i64 0) (.string ⟨#[]⟩) (.slice A' m c'))
        obtain ⟨r0,r1,r2,r3,-,-,-,-⟩:=HPT.out.cells;refine bodyPost_ret (v:=exV op 0 [] A' m c') (by simp [results,Tryz.results133,go_sem,exV,r0,r1,r2,r3]) rfl ?_
        obtain ⟨A7,c7,e7,hc7,hm7⟩:=HO5.out.shape;have hm7':=HM.out;subst hm7';injection e7 with e1 e2 e3
        subst e1;subst e3;exact RetEx.put (S:=fun b=>w.heap.size+2≤b∧b<w5.heap.size) hc7 hm7 ⟨HWF.out,HWN.out,by simp⟩ (HO5.out.rw rfl fun b h1 h2=>⟨h1,h2⟩) (fun b hb=>⟨by omega,hb.2⟩) HL5.out hlt5 hpl
      | true =>
        rw [htm] at hgo C4;rw [if_pos rfl] at hgo;have HC4:=Hi C4;have HTM:=Hi htm;clear C4 htm
        by_cases hq:isT L j [44] = true
        case neg =>
          unfold zbd at hgo;rw [if_neg hq] at hgo;obtain rfl:Except.error ((tk L j).pos,6)=r:=by injection hgo
          have HC5:=Hi (zcv [44] hps (by simpa using hq));have HLW:=Hi hl;clear hq hgo hx ho hz hl hps hm;go_wp2_with fail
          refine (HC4.out _).mono ?_
          rintro e' w9 ⟨rfl,rfl⟩
          go_wp2_with fail
          refine HC5.out.mono ?_
          rintro e' w5 ⟨rfl,hg⟩
          exact zai rfl ⟨rfl,HLW.out.1.trans hg⟩
        unfold zbd at hgo;rw [if_pos hq] at hgo;have HC5:=Hi (zcw [44] hps hq);have hlt2:=hps.take_lt;have HGO:=Hi hgo;have HXW:=Hi hx;have HOW:=Hi ho;have HZW:=Hi hz;have HLW:=Hi hl;have HPSW:=Hi hps;have HM:=Hi hm;clear hgo hx ho hz hl hps hm hq;go_wp2_with fail
        refine (HC4.out _).mono ?_
        rintro e' w9 ⟨rfl,rfl⟩
        go_wp2_with fail
        refine HC5.out.mono ?_
        rintro e' w2 ⟨rfl,hl2⟩
        have hs2:=hl2.1.size;have HXW:=Hi (HXW.out.grown hl2.1 (by intro h;injection h;omega));have HOW:=Hi (HOW.out.grown hl2.1 (by omega));have HZW:=Hi (HZW.out.left hl2 (by omega));have HLW:=Hi (HLW.out.trans hl2);have HPSW:=Hi (HPSW.out.left hl2 hlt2);clear hl2;obtain ⟨t,ht⟩:∃ t,tk L (zaA L j)=t:=⟨_,rfl⟩;have HTK:=zbb HPSW.out;unfold zbm at HTK;have hlt3:=HPSW.out.take_lt;have hgo:=HGO.out;have hfit:=HPSW.out.fit (zaA L j);unfold zgd at hgo;rw [ht] at HTK hgo hfit;have HC6:=Hi HTK;have HWN:=Hi hfit.1;clear HTK hfit ht HGO;go_wp2_with fail
        refine HC6.out.mono ?_
        rintro e' w3 ⟨rfl,hl3⟩
        unfold tokV;have hs3:=hl3.1.size;have hx3:=(HXW.out.grown hl3.1 (by intro h;injection h;omega));have HOW:=Hi (HOW.out.grown hl3.1 (by omega));have hz3:=(HZW.out.left hl3 (by omega));have HLW:=Hi (HLW.out.trans hl3);have hps3:=(HPSW.out.left hl3 hlt3);have hx3l:=hx3.lt;have HPSW:=Hi hps3;have HXW:=Hi hx3;have HZW:=Hi hz3;obtain ⟨p0,p1,p2,f1,f2⟩:=hps3.cells;obtain ⟨-,y1,-,-,g0,g1,g2,g3⟩:=hx3.cells;have hpl3:=hps3.ltp;clear hl3 hps3 hz3 hx3 HC6 p0 p1 f1 g0 g2 g3
        by_cases hk:t.kind=2
        case neg =>
          rw [if_neg hk] at hgo;obtain rfl:Except.error (t.pos,6)=r:=by injection hgo
          have k1:(t.kind != 2)=true:=by simp [hk]
          clear hgo hk;go_wp2;refine zai rfl ⟨rfl,zaK HLW.out.1 _⟩
        rw [if_pos hk] at hgo;have k1:(t.kind != 2)=false:=by simp [hk]
        have HK:=Hi hk;clear hk
        by_cases h500:500<t.n
        · by_cases hneg:la<0
          · rw [if_pos ⟨h500,hneg⟩] at hgo
            have HGO:=Hi hgo
            clear hgo
            have HXW:=Hi (HXW.out.other (q:=pb) (i:=2) (.int .i64 t.pos) (by omega))
            have HOW:=Hi (HOW.out.grown (zaf w3 pb 2 (.int .i64 t.pos)) (by omega))
            have HZW:=Hi (ZB.of (XV.other HZW.out (q:=pb) (i:=2) (.int .i64 t.pos) (by omega)))
            have HLW:=Hi (HLW.out.late t.pos)
            have HXW:=Hi ((HXW.out.set1 t.n).grown (World.grownBy_alloc _ (Obj.cells #[.int .i64 t.kind,.string ⟨t.text.toArray⟩,.int .i64 t.pos,.int .i64 t.n] 136) Option.none) (by simp))
            have HOW:=Hi ((HOW.out.grown (zaf (w3.setCell ⟨pb,2,none⟩ (.int .i64 t.pos)) (w.heap.size+1) 1 (.int .i64 t.n)) (by omega)).grown (World.grownBy_alloc _ (Obj.cells #[.int .i64 t.kind,.string ⟨t.text.toArray⟩,.int .i64 t.pos,.int .i64 t.n] 136) (some pb)) (by omega))
            have HZW:=Hi (ZB.of (XV.grown (XV.other HZW.out (q:=w.heap.size+1) (i:=1) (.int .i64 t.n) (by omega)) (World.grownBy_alloc _ (Obj.cells #[.int .i64 t.kind,.string ⟨t.text.toArray⟩,.int .i64 t.pos,.int .i64 t.n] 136) Option.none) (by simp)))
            have HLW:=Hi ((HLW.out.own (zaf (w3.setCell ⟨pb,2,none⟩ (.int .i64 t.pos)) (w.heap.size+1) 1 (.int .i64 t.n)) (fun b q=>by injection q;omega) hpl).alloc (Obj.cells #[.int .i64 t.kind,.string ⟨t.text.toArray⟩,.int .i64 t.pos,.int .i64 t.n] 136))
            have HPSW:=Hi (HS.out.left HLW.out hlt3)
            by_cases hq:isT L (zaA L (zaA L j)) [41] = true
            case neg =>
              have hgo2:=HGO.out
              unfold zcT zbd at hgo2
              rw [if_neg hq] at hgo2
              obtain rfl:Except.error ((tk L (zaA L (zaA L j))).pos,6)=r:=by injection hgo2
              have HC5:=Hi (zcv [41] HPSW.out (by simpa using hq))
              clear hgo2 hq HGO
              go_wp2_with fail
              refine HC5.out.mono ?_
              rintro e' w5 ⟨rfl,hg⟩
              exact zai rfl ⟨rfl,HLW.out.1.trans hg⟩
            have hgo2:=HGO.out
            unfold zcT zbd at hgo2
            rw [if_pos hq] at hgo2
            obtain rfl:Except.ok (Ex.mk op t.n [] acc,zaA L (zaA L (zaA L j)),t.pos)=r:=by injection hgo2
            have HC5:=Hi (zcw [41] HPSW.out hq)
            have hlt5:=HPSW.out.take_lt
            clear hgo2 hq HGO
            go_wp2_with fail
            refine HC5.out.mono ?_
            rintro e' w5 ⟨rfl,hl5⟩
            have hs5:=hl5.1.size
            have X5:=HXW.out.grown hl5.1 (by intro h;injection h;omega)
            have Z5:=HZW.out.left hl5 (by omega)
            have HO5:=Hi (HOW.out.grown hl5.1 (by omega))
            have HL5:=Hi (HLW.out.trans hl5)
            obtain ⟨x0,x1,x2,x3,-,-,-,-⟩:=X5.cells
            obtain ⟨q0,q1,q2,q3,z0,z1,z2,z3⟩:=XV.cells Z5
            have HPT:=Hi (zak Z5 op t.n [] A' m c')
            have hx5:=X5.lt
            clear hl5 X5 Z5 HC5 HXW HZW HOW HLW HPSW
            go_wp2
            change bodyPost _ _ _ _ _ (set4 w5 w.heap.size (.int .i64 op) (.int .i64 t.n) (.string ⟨#[]⟩) (.slice A' m c'))
            obtain ⟨r0,r1,r2,r3,-,-,-,-⟩:=HPT.out.cells
            refine bodyPost_ret (v:=exV op t.n [] A' m c') (by simp [results,Tryz.results133,go_sem,exV,r0,r1,r2,r3]) rfl ?_
            obtain ⟨A7,c7,e7,hc7,hm7⟩:=HO5.out.shape
            have hm7':=HM.out
            subst hm7'
            injection e7 with e1 e2 e3
            subst e1
            subst e3
            exact RetEx.put (S:=fun b=>w.heap.size+2≤b∧b<w5.heap.size) hc7 hm7 ⟨HWF.out,HWN.out,by simp⟩ (HO5.out.rw rfl fun b h1 h2=>⟨h1,h2⟩) (fun b hb=>⟨by omega,hb.2⟩) HL5.out hlt5 hpl
          · rw [if_neg (fun q=>hneg q.2)] at hgo
            have HGO:=Hi hgo
            clear hgo
            have HXW:=Hi ((HXW.out.set1 t.n).grown (World.grownBy_alloc _ (Obj.cells #[.int .i64 t.kind,.string ⟨t.text.toArray⟩,.int .i64 t.pos,.int .i64 t.n] 136) Option.none) (by simp))
            have HOW:=Hi ((HOW.out.grown (zaf w3 (w.heap.size+1) 1 (.int .i64 t.n)) (by omega)).grown (World.grownBy_alloc _ (Obj.cells #[.int .i64 t.kind,.string ⟨t.text.toArray⟩,.int .i64 t.pos,.int .i64 t.n] 136) (some pb)) (by omega))
            have HZW:=Hi (ZB.of (XV.grown (XV.other HZW.out (q:=w.heap.size+1) (i:=1) (.int .i64 t.n) (by omega)) (World.grownBy_alloc _ (Obj.cells #[.int .i64 t.kind,.string ⟨t.text.toArray⟩,.int .i64 t.pos,.int .i64 t.n] 136) Option.none) (by simp)))
            have HLW:=Hi ((HLW.out.own (zaf w3 (w.heap.size+1) 1 (.int .i64 t.n)) (fun b q=>by injection q;omega) hpl).alloc (Obj.cells #[.int .i64 t.kind,.string ⟨t.text.toArray⟩,.int .i64 t.pos,.int .i64 t.n] 136))
            have HPSW:=Hi (HS.out.left HLW.out hlt3)
            by_cases hq:isT L (zaA L (zaA L j)) [41] = true
            case neg =>
              have hgo2:=HGO.out
              unfold zcT zbd at hgo2
              rw [if_neg hq] at hgo2
              obtain rfl:Except.error ((tk L (zaA L (zaA L j))).pos,6)=r:=by injection hgo2
              have HC5:=Hi (zcv [41] HPSW.out (by simpa using hq))
              clear hgo2 hq HGO
              go_wp2_with fail
              refine HC5.out.mono ?_
              rintro e' w5 ⟨rfl,hg⟩
              exact zai rfl ⟨rfl,HLW.out.1.trans hg⟩
            have hgo2:=HGO.out
            unfold zcT zbd at hgo2
            rw [if_pos hq] at hgo2
            obtain rfl:Except.ok (Ex.mk op t.n [] acc,zaA L (zaA L (zaA L j)),la)=r:=by injection hgo2
            have HC5:=Hi (zcw [41] HPSW.out hq)
            have hlt5:=HPSW.out.take_lt
            clear hgo2 hq HGO
            go_wp2_with fail
            refine HC5.out.mono ?_
            rintro e' w5 ⟨rfl,hl5⟩
            have hs5:=hl5.1.size
            have X5:=HXW.out.grown hl5.1 (by intro h;injection h;omega)
            have Z5:=HZW.out.left hl5 (by omega)
            have HO5:=Hi (HOW.out.grown hl5.1 (by omega))
            have HL5:=Hi (HLW.out.trans hl5)
            obtain ⟨x0,x1,x2,x3,-,-,-,-⟩:=X5.cells
            obtain ⟨q0,q1,q2,q3,z0,z1,z2,z3⟩:=XV.cells Z5
            have HPT:=Hi (zak Z5 op t.n [] A' m c')
            have hx5:=X5.lt
            clear hl5 X5 Z5 HC5 HXW HZW HOW HLW HPSW
            go_wp2
            change bodyPost _ _ _ _ _ (set4 w5 w.heap.size (.int .i64 op) (.int .i64 t.n) (.string ⟨#[]⟩) (.slice A' m c'))
            obtain ⟨r0,r1,r2,r3,-,-,-,-⟩:=HPT.out.cells
            refine bodyPost_ret (v:=exV op t.n [] A' m c') (by simp [results,Tryz.results133,go_sem,exV,r0,r1,r2,r3]) rfl ?_
            obtain ⟨A7,c7,e7,hc7,hm7⟩:=HO5.out.shape
            have hm7':=HM.out
            subst hm7'
            injection e7 with e1 e2 e3
            subst e1
            subst e3
            exact RetEx.put (S:=fun b=>w.heap.size+2≤b∧b<w5.heap.size) hc7 hm7 ⟨HWF.out,HWN.out,by simp⟩ (HO5.out.rw rfl fun b h1 h2=>⟨h1,h2⟩) (fun b hb=>⟨by omega,hb.2⟩) HL5.out hlt5 hpl
        · rw [if_neg (fun q=>h500 q.1)] at hgo
          have HGO:=Hi hgo
          clear hgo
          have HXW:=Hi ((HXW.out.set1 t.n).grown (World.grownBy_alloc _ (Obj.cells #[.int .i64 t.kind,.string ⟨t.text.toArray⟩,.int .i64 t.pos,.int .i64 t.n] 136) Option.none) (by simp))
          have HOW:=Hi ((HOW.out.grown (zaf w3 (w.heap.size+1) 1 (.int .i64 t.n)) (by omega)).grown (World.grownBy_alloc _ (Obj.cells #[.int .i64 t.kind,.string ⟨t.text.toArray⟩,.int .i64 t.pos,.int .i64 t.n] 136) (some pb)) (by omega))
          have HZW:=Hi (ZB.of (XV.grown (XV.other HZW.out (q:=w.heap.size+1) (i:=1) (.int .i64 t.n) (by omega)) (World.grownBy_alloc _ (Obj.cells #[.int .i64 t.kind,.string ⟨t.text.toArray⟩,.int .i64 t.pos,.int .i64 t.n] 136) Option.none) (by simp)))
          have HLW:=Hi ((HLW.out.own (zaf w3 (w.heap.size+1) 1 (.int .i64 t.n)) (fun b q=>by injection q;omega) hpl).alloc (Obj.cells #[.int .i64 t.kind,.string ⟨t.text.toArray⟩,.int .i64 t.pos,.int .i64 t.n] 136))
          have HPSW:=Hi (HS.out.left HLW.out hlt3)
          by_cases hq:isT L (zaA L (zaA L j)) [41] = true
          case neg =>
            have hgo2:=HGO.out
            unfold zcT zbd at hgo2
            rw [if_neg hq] at hgo2
            obtain rfl:Except.error ((tk L (zaA L (zaA L j))).pos,6)=r:=by injection hgo2
            have HC5:=Hi (zcv [41] HPSW.out (by simpa using hq))
            clear hgo2 hq HGO
            go_wp2_with fail
            refine HC5.out.mono ?_
            rintro e' w5 ⟨rfl,hg⟩
            exact zai rfl ⟨rfl,HLW.out.1.trans hg⟩
          have hgo2:=HGO.out
          unfold zcT zbd at hgo2
          rw [if_pos hq] at hgo2
          obtain rfl:Except.ok (Ex.mk op t.n [] acc,zaA L (zaA L (zaA L j)),la)=r:=by injection hgo2
          have HC5:=Hi (zcw [41] HPSW.out hq)
          have hlt5:=HPSW.out.take_lt
          clear hgo2 hq HGO
          go_wp2_with fail
          refine HC5.out.mono ?_
          rintro e' w5 ⟨rfl,hl5⟩
          have hs5:=hl5.1.size
          have X5:=HXW.out.grown hl5.1 (by intro h;injection h;omega)
          have Z5:=HZW.out.left hl5 (by omega)
          have HO5:=Hi (HOW.out.grown hl5.1 (by omega))
          have HL5:=Hi (HLW.out.trans hl5)
          obtain ⟨x0,x1,x2,x3,-,-,-,-⟩:=X5.cells
          obtain ⟨q0,q1,q2,q3,z0,z1,z2,z3⟩:=XV.cells Z5
          have HPT:=Hi (zak Z5 op t.n [] A' m c')
          have hx5:=X5.lt
          clear hl5 X5 Z5 HC5 HXW HZW HOW HLW HPSW
          go_wp2
          change bodyPost _ _ _ _ _ (set4 w5 w.heap.size (.int .i64 op) (.int .i64 t.n) (.string ⟨#[]⟩) (.slice A' m c'))
          obtain ⟨r0,r1,r2,r3,-,-,-,-⟩:=HPT.out.cells
          refine bodyPost_ret (v:=exV op t.n [] A' m c') (by simp [results,Tryz.results133,go_sem,exV,r0,r1,r2,r3]) rfl ?_
          obtain ⟨A7,c7,e7,hc7,hm7⟩:=HO5.out.shape
          have hm7':=HM.out
          subst hm7'
          injection e7 with e1 e2 e3
          subst e1
          subst e3
          exact RetEx.put (S:=fun b=>w.heap.size+2≤b∧b<w5.heap.size) hc7 hm7 ⟨HWF.out,HWN.out,by simp⟩ (HO5.out.rw rfl fun b h1 h2=>⟨h1,h2⟩) (fun b hb=>⟨by omega,hb.2⟩) HL5.out hlt5 hpl
    | succ k =>
      have hmlt:m<ar:=by omega
      rw [zb4] at hgo
      by_cases hm0:m=0
      · have he:acc.isEmpty=true:=by rw [List.isEmpty_iff];exact List.length_eq_zero_iff.1 (by omega)
        rw [if_pos he,zg0] at hgo
        have d0:¬ 0<m:=by omega
        have HGO:=Hi hgo
        have HM0:=Hi hm0
        have HXW:=Hi hx
        have HOW:=Hi ho
        have HZW:=Hi hz
        have HLW:=Hi hl
        have HPSW:=Hi hps
        have HM:=Hi hm
        clear hgo hx ho hz hl hps hm hm0 he
        have HPB:=Hi (show pb<w.heap.size+2 by omega)
        have HNE:=Hi (show some (w.heap.size+1)≠some pb by intro h;injection h;omega)
        have HNB:=Hi (show ∀ g,(Value.slice A' m c').ownBlock=some g→w.heap.size+2≤g∧g<wr.heap.size from fun g hg=>HOW.out.lt hg)
        have HXD:=Hi (HXW.out.grown (zbJ wr Option.none) (by simp))
        have HOD:=Hi (HOW.out.grown (zbJ wr (some pb)) HPB.out)
        have hwr:w.heap.size+2≤wr.drew.heap.size:=HXW.out.lt
        rcases Res.go_some HGO.out with ⟨a,er,h1,rfl⟩ | ⟨y,j2,la2,h1,h2⟩
        · have HCE:=Hi (HP.out _ _ _ _ HPSW.out.drew h1)
          obtain ⟨x0,x1,x2,x3,z0,z1,z2,z3⟩:=HXW.out.cells
          clear h1 HGO
          go_wp2
          go_region_dies
          all_goals
            refine HCE.out.mono ?_
            rintro e' w5 ⟨rfl,hg⟩
            exact zai rfl ⟨rfl,HLW.out.1.trans ((zbJ _ _).trans hg)⟩
        have HCE:=Hi (HP.out _ _ _ _ HPSW.out.drew h1)
        have H2:=Hi h2
        have hm1:acc.length+1≤maxLen:=by have:=HM.out;unfold maxLen;omega
        have hm2:(acc.length+1)*56≤140737488355328:=by have:=HM.out;omega
        obtain ⟨ti,hti,hzi⟩:=Option.map_eq_some_iff.1 zhy
        obtain ⟨hz0,hz1,hz2⟩:ti.zero=some (.agg #[.int .i64 0,.int .i64 0,.string ⟨#[]⟩,.slice Option.none 0 0])∧ti.size=4∧ti.bytes=56:=by simpa using hzi
        have NB1:some (w.heap.size+1)≠(Value.slice A' m c').ownBlock:=fun q=>by have:=(HNB.out _ q.symm).1;omega
        have NB0:some w.heap.size≠(Value.slice A' m c').ownBlock:=fun q=>by have:=(HNB.out _ q.symm).1;omega
        obtain ⟨x0,x1,x2,x3,z0,z1,z2,z3⟩:=HXW.out.cells
        have HTI:=Hi (And.intro hti (And.intro hz0 (And.intro hz1 hz2)))
        have HM1:=Hi hm1
        have HM2:=Hi hm2
        have HN1:=Hi NB1
        have HN0:=Hi NB0
        clear h1 HGO h2 hzi hti hz0 hz1 hz2 hm1 hm2 NB1 NB0
        go_wp2
        go_region_law
          (first
           | ((refine zaW (o:=⟨some 26,_,_,_,_,_⟩) (w:=w5.alloc (Obj.cells #[.int .i64 op2,.int .i64 n2,.string ⟨nm2.toArray⟩,.slice A2 ks2.length c2] 48)) _ _ 27 rfl rfl Tryz.underlying27 HTI.out.1 HTI.out.2.1 HTI.out.2.2.1 HTI.out.2.2.2 rfl (by decide) rfl HOW5.out rfl HSR.out (zeN _) HM1.out HM2.out HB5.out ?_;intro v6 w6 hown6 hg6 hv6;have X6:=(HX5.out.grown (World.grownBy_alloc w5 _ Option.none) (Option.some_ne_none _)).grown hg6 HN1.out;have s6:=X6.cells.2.2.2.1;have f6:=X6.cells.2.2.2.2.2.2.2;obtain ⟨A6,c6,hv6e,hnc6,hmx6⟩:=zag hown6;have HX6:=Hi X6;have HOW6:=Hi hown6;have HG6:=Hi hg6;have HV6:=Hi hv6;clear X6 hown6 hg6 hv6;subst hv6e))
           | ((go_simp;go_at_call 77;refine HCE.out.mono ?_;rintro e' w5 ⟨op2,n2,nm2,A2,c2,ks2,rfl,rfl,hc2,hm2,hp2,hr2,hl2,hj2⟩;unfold exV;have X5:=HXD.out.grown hl2.1 HNE.out;have s5:=X5.cells.2.2.2.1;have hlt5:=X5.lt;have f5:=X5.cells.2.2.2.2.2.2.2;have hs5:=hl2.1.size;have O5:=HOD.out.grown hl2.1 HPB.out;obtain ⟨ls,hls,hown5,hvs5,hT5⟩:=O5;have HR2:=Hi hr2;have HL2:=Hi hl2;have HX5:=Hi X5;have HLS:=Hi hls;have HOW5:=Hi (hown5.alloc (Obj.cells #[.int .i64 op2,.int .i64 n2,.string ⟨nm2.toArray⟩,.slice A2 ks2.length c2] 48));have HV5:=Hi hvs5;have HT5:=Hi hT5;have src5:Src (w5.alloc (Obj.cells #[.int .i64 op2,.int .i64 n2,.string ⟨nm2.toArray⟩,.slice A2 ks2.length c2] 48)) 4 (some ⟨w5.heap.size,0,none⟩) 1 (XL.cells ⟨op2,n2,nm2,A2,ks2.length,c2⟩):=zaL w5 _ _ 4 1 rfl;have HSR:=Hi src5;have hb5:w.heap.size+2≤(w5.alloc (Obj.cells #[.int .i64 op2,.int .i64 n2,.string ⟨nm2.toArray⟩,.slice A2 ks2.length c2] 48)).heap.size:=Nat.le_trans (Nat.le_trans hwr hs5) (zaa w5 _).size;have HB5:=Hi hb5;clear hr2 hl2 X5 hls hown5 hvs5 hT5 src5 hb5)))
        all_goals
          go_wp2
          go_roundg k
          case measure=>omega
          case rel =>
            have hml:=HM.out
            rw [hml]
            have hs6:=HG6.out.size
            simp only [World.size_alloc] at hs6
            have hs5':wr.heap.size≤w5.heap.size:=hs5
            have hwr':w.heap.size+2≤wr.heap.size:=hwr
            have kb:=zab (S:=fun b=>b<w5.heap.size) (zaa w5 (Obj.cells #[.int .i64 op2,.int .i64 n2,.string ⟨nm2.toArray⟩,.slice A2 ks2.length c2] 48)) (fun b hb=>hb)
            have hO6:=XOwn.push (T:=fun b=>T b∨New wr.drew w5 b) (xs:=acc) (l:=⟨op2,n2,nm2,A2,ks2.length,c2⟩) (y := .mk op2 n2 nm2 ks2) HLS.out
              (fun k l x hl hx=>ExV.mono _ _ _ _ _ _ (fun b hb => .inl hb) (kb.mono fun b hb=>(HT5.out b hb).2.1) (HV5.out k l x hl hx))
              (fun b hb=>by
                rcases hb with hb | hb
                · have:=HT5.out b hb
                  exact ⟨this.1,by simp only [World.size_alloc];omega,this.2.2⟩
                · have h1:wr.heap.size≤b:=hb.1
                  have h2:=hb.2
                  refine ⟨by omega,by simp only [World.size_alloc];omega,fun q => ?_⟩
                  have:=(HNB.out _ q.symm).2
                  omega)
              (ExV.mono _ _ _ _ _ _ (fun b hb => .inr hb) (kb.mono fun b hb=>hb.2) (ExV.mk hc2 hm2 hp2 HR2.out)) HOW6.out HG6.out HV6.out
            have hb1:∀ b,(Value.slice A' m c').ownBlock=some b→w.heap.size≤b:=fun b q=>by have:=(HNB.out _ q).1;omega
            refine ⟨acc++[.mk op2 n2 nm2 ks2],m+1,j2,la2,A6,c6,(fun b=>T b∨New wr.drew w5 b),H2.out,by simp [hml],by omega,by go_num,?_,?_,?_,?_,hj2⟩
            · have:=HX6.out.set3 A6 (m+1) c6
              exact this
            · have:=hO6.grown (zaf w6 (w.heap.size+1) 3 (.slice A6 (m+1) c6)) (by omega)
              rw [hml] at this
              exact this
            · have z1:=(HZW.out.below (zad (Below.refl _ _))).left HL2.out (by omega)
              have z2:=XV.grown (XV.grown z1 (World.grownBy_alloc w5 _ Option.none) (by simp)) HG6.out HN0.out
              exact XV.other z2 _ (by omega)
            · exact (((((zc4 HLW.out).trans HL2.out).alloc _).own HG6.out hb1 hpl).own (zaf w6 (w.heap.size+1) 3 _) (fun b q=>by injection q;omega) hpl)
      · have he:¬ acc.isEmpty=true:=by
          rw [List.isEmpty_iff];intro q;rw [q] at hm;simp at hm
          omega
        rw [if_neg he,zlw] at hgo;have d0:0<m:=by omega
        clear hm0 he
        by_cases hq:isT L j [44] = true
        case neg =>
          unfold zbd at hgo;rw [if_neg hq] at hgo;obtain rfl:Except.error ((tk L j).pos,6)=r:=by injection hgo
          have HC5:=Hi (zcv [44] hps (by simpa using hq));have HLW:=Hi hl;clear hq hgo hx ho hz hl hps hm;go_wp2_with fail
          refine HC5.out.mono ?_
          rintro e' w5 ⟨rfl,hg⟩
          exact zai rfl ⟨rfl,HLW.out.1.trans hg⟩
        unfold zbd at hgo;rw [if_pos hq] at hgo;have HC5:=Hi (zcw [44] hps hq);have hlt2:=hps.take_lt;dsimp only at hgo;rw [zg0] at hgo;have HGO:=Hi hgo;have HXW:=Hi hx;have HOW:=Hi ho;have HZW:=Hi hz;have HLW:=Hi hl;have HPSW:=Hi hps;have HM:=Hi hm;clear hgo hx ho hz hl hps hm hq;go_wp2_with fail
        refine HC5.out.mono ?_
        rintro e' w2 ⟨rfl,hl2⟩
        have hs2:=hl2.1.size;have HXW:=Hi (HXW.out.grown hl2.1 (by intro h;injection h;omega));have HOW:=Hi (HOW.out.grown hl2.1 (by omega));have HZW:=Hi (HZW.out.left hl2 (by omega));have HLW:=Hi (HLW.out.trans hl2);have HPSW:=Hi (HPSW.out.left hl2 hlt2);clear hl2;have HPB:=Hi (show pb<w.heap.size+2 by omega);have HNE:=Hi (show some (w.heap.size+1)≠some pb by intro h;injection h;omega);have HNB:=Hi (show ∀ g,(Value.slice A' m c').ownBlock=some g→w.heap.size+2≤g∧g<w2.heap.size from fun g hg=>HOW.out.lt hg);have HXD:=Hi (HXW.out.grown (zbJ w2 Option.none) (by simp));have HOD:=Hi (HOW.out.grown (zbJ w2 (some pb)) HPB.out);have hw2:w.heap.size+2≤w2.drew.heap.size:=HXW.out.lt
        rcases Res.go_some HGO.out with ⟨a,er,h1,rfl⟩ | ⟨y,j2,la2,h1,h2⟩
        · have HCE:=Hi (HP.out _ _ _ _ HPSW.out.drew h1)
          obtain ⟨x0,x1,x2,x3,z0,z1,z2,z3⟩:=HXW.out.cells
          clear h1 HGO
          go_wp2
          go_region_dies
          all_goals
            refine HCE.out.mono ?_
            rintro e' w5 ⟨rfl,hg⟩
            exact zai rfl ⟨rfl,HLW.out.1.trans ((zbJ _ _).trans hg)⟩
        have HCE:=Hi (HP.out _ _ _ _ HPSW.out.drew h1);have H2:=Hi h2;have hm1:acc.length+1≤maxLen:=by have:=HM.out;unfold maxLen;omega
        have hm2:(acc.length+1)*56≤140737488355328:=by have:=HM.out;omega
        obtain ⟨ti,hti,hzi⟩:=Option.map_eq_some_iff.1 zhy;obtain ⟨hz0,hz1,hz2⟩:ti.zero=some (.agg #[.int .i64 0,.int .i64 0,.string ⟨#[]⟩,.slice Option.none 0 0])∧ti.size=4∧ti.bytes=56:=by simpa using hzi
        have NB1:some (w.heap.size+1)≠(Value.slice A' m c').ownBlock:=fun q=>by have:=(HNB.out _ q.symm).1;omega
        have NB0:some w.heap.size≠(Value.slice A' m c').ownBlock:=fun q=>by have:=(HNB.out _ q.symm).1;omega
        obtain ⟨x0,x1,x2,x3,z0,z1,z2,z3⟩:=HXW.out.cells;have HTI:=Hi (And.intro hti (And.intro hz0 (And.intro hz1 hz2)));have HM1:=Hi hm1;have HM2:=Hi hm2;have HN1:=Hi NB1;have HN0:=Hi NB0;clear h1 HGO h2 hzi hti hz0 hz1 hz2 hm1 hm2 NB1 NB0;go_wp2
        go_region_law
          (first
           | ((refine zaW (o:=⟨some 26,_,_,_,_,_⟩) (w:=w5.alloc (Obj.cells #[.int .i64 op2,.int .i64 n2,.string ⟨nm2.toArray⟩,.slice A2 ks2.length c2] 48)) _ _ 27 rfl rfl Tryz.underlying27 HTI.out.1 HTI.out.2.1 HTI.out.2.2.1 HTI.out.2.2.2 rfl (by decide) rfl HOW5.out rfl HSR.out (zeN _) HM1.out HM2.out HB5.out ?_;intro v6 w6 hown6 hg6 hv6;have X6:=(HX5.out.grown (World.grownBy_alloc w5 _ Option.none) (Option.some_ne_none _)).grown hg6 HN1.out;have s6:=X6.cells.2.2.2.1;have f6:=X6.cells.2.2.2.2.2.2.2;obtain ⟨A6,c6,hv6e,hnc6,hmx6⟩:=zag hown6;have HX6:=Hi X6;have HOW6:=Hi hown6;have HG6:=Hi hg6;have HV6:=Hi hv6;clear X6 hown6 hg6 hv6;subst hv6e))
           | ((go_simp;go_at_call 77;refine HCE.out.mono ?_;rintro e' w5 ⟨op2,n2,nm2,A2,c2,ks2,rfl,rfl,hc2,hm2,hp2,hr2,hl2,hj2⟩;unfold exV;have X5:=HXD.out.grown hl2.1 HNE.out;have s5:=X5.cells.2.2.2.1;have hlt5:=X5.lt;have f5:=X5.cells.2.2.2.2.2.2.2;have hs5:=hl2.1.size;have O5:=HOD.out.grown hl2.1 HPB.out;obtain ⟨ls,hls,hown5,hvs5,hT5⟩:=O5;have HR2:=Hi hr2;have HL2:=Hi hl2;have HX5:=Hi X5;have HLS:=Hi hls;have HOW5:=Hi (hown5.alloc (Obj.cells #[.int .i64 op2,.int .i64 n2,.string ⟨nm2.toArray⟩,.slice A2 ks2.length c2] 48));have HV5:=Hi hvs5;have HT5:=Hi hT5;have src5:Src (w5.alloc (Obj.cells #[.int .i64 op2,.int .i64 n2,.string ⟨nm2.toArray⟩,.slice A2 ks2.length c2] 48)) 4 (some ⟨w5.heap.size,0,none⟩) 1 (XL.cells ⟨op2,n2,nm2,A2,ks2.length,c2⟩):=zaL w5 _ _ 4 1 rfl;have HSR:=Hi src5;have hb5:w.heap.size+2≤(w5.alloc (Obj.cells #[.int .i64 op2,.int .i64 n2,.string ⟨nm2.toArray⟩,.slice A2 ks2.length c2] 48)).heap.size:=Nat.le_trans (Nat.le_trans hw2 hs5) (zaa w5 _).size;have HB5:=Hi hb5;clear hr2 hl2 X5 hls hown5 hvs5 hT5 src5 hb5)))
        all_goals
          go_wp2;go_roundg k
          case measure=>omega
          case rel =>
            have hml:=HM.out;rw [hml];have hs6:=HG6.out.size;simp only [World.size_alloc] at hs6;have hs5':w2.heap.size≤w5.heap.size:=hs5;have hw2':w.heap.size+2≤w2.heap.size:=hw2;have kb:=zab (S:=fun b=>b<w5.heap.size) (zaa w5 (Obj.cells #[.int .i64 op2,.int .i64 n2,.string ⟨nm2.toArray⟩,.slice A2 ks2.length c2] 48)) (fun b hb=>hb)
            have hO6:=XOwn.push (T:=fun b=>T b∨New w2.drew w5 b) (xs:=acc) (l:=⟨op2,n2,nm2,A2,ks2.length,c2⟩) (y := .mk op2 n2 nm2 ks2) HLS.out
              (fun k l x hl hx=>ExV.mono _ _ _ _ _ _ (fun b hb => .inl hb) (kb.mono fun b hb=>(HT5.out b hb).2.1) (HV5.out k l x hl hx))
              (fun b hb=>by
                rcases hb with hb | hb
                · have:=HT5.out b hb
                  exact ⟨this.1,by simp only [World.size_alloc];omega,this.2.2⟩
                · have h1:w2.heap.size≤b:=hb.1
                  have h2:=hb.2
                  refine ⟨by omega,by simp only [World.size_alloc];omega,fun q => ?_⟩
                  have:=(HNB.out _ q.symm).2
                  omega)
              (ExV.mono _ _ _ _ _ _ (fun b hb => .inr hb) (kb.mono fun b hb=>hb.2) (ExV.mk hc2 hm2 hp2 HR2.out)) HOW6.out HG6.out HV6.out
            have hb1:∀ b,(Value.slice A' m c').ownBlock=some b→w.heap.size≤b:=fun b q=>by have:=(HNB.out _ q).1;omega
            refine ⟨acc++[.mk op2 n2 nm2 ks2],m+1,j2,la2,A6,c6,(fun b=>T b∨New w2.drew w5 b),H2.out,by simp [hml],by omega,by go_num,?_,?_,?_,?_,hj2⟩
            · have:=HX6.out.set3 A6 (m+1) c6
              exact this
            · have:=hO6.grown (zaf w6 (w.heap.size+1) 3 (.slice A6 (m+1) c6)) (by omega)
              rw [hml] at this
              exact this
            · have z1:=(HZW.out.below (zad (Below.refl _ _))).left HL2.out (by omega)
              have z2:=XV.grown (XV.grown z1 (World.grownBy_alloc w5 _ Option.none) (by simp)) HG6.out HN0.out
              exact XV.other z2 _ (by omega)
            · exact (((((zc4 HLW.out).trans HL2.out).alloc _).own HG6.out hb1 hpl).own (zaf w6 (w.heap.size+1) 3 _) (fun b q=>by injection q;omega) hpl)
end Go.Proofs.YtcikenlflcofbaaGreatDoor
