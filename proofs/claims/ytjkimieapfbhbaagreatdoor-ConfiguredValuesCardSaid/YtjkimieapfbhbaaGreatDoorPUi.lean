/-
 The program's check of the four lists of a relay.
-/
import Derived.Test.YtjkimieapfbhbaaGreatDoorKPUh
import Derived.Test.YtjkimieapfbhbaaGreatDoorKDup
set_option maxRecDepth 100000
set_option maxHeartbeats 8000000
open Go.Value renaming string → d, int → l, slice → v, agg → C, bool → D
open Go.Obj renaming cells → f
open Option renaming none → g
open Nat renaming lt_of_lt_of_le → j, le_of_lt → z, le_refl → E, zero_le → G, lt_succ_self → H, add_zero → I
open Go.IntKind renaming i64 → m
open Go.Proofs.Tryz renaming prog → r
open Go.World renaming cell?_of_block → u
open List renaming getElem?_map → J
namespace Go.Proofs.YtjkimieapfbhbaaGreatDoor
open Go.RowKit
theorem zc8 {P:Program} {t k e:TypeId} {W:World} {mb n:Nat} {keys:List ByteArray} {s:ByteArray} (h:MapS P k e W mb n (zcb keys n)) (hk:P.underlying k=some .string) (ht:P.underlying t=some (.map k e)) (hz:(zeroValue e).run P W = .ok (D false) W) (hs:s.size≤maxLen) (hno:seen keys n s=false) :
 (Instr.lookup t (.map (some mb)) (d s) false).run P W = .ok (D false) W:=by
 have:=h.look (t:=t) hk ht hz hs false;rw [zc4,hno] at this;exact this
def FsR (mb:Nat) (W1:World) (keys:List ByteArray) (N:Nat) (i:Value) (wr:World):Prop:=
 ∃ k:Nat,k≤N∧i = l m k∧MapS r 9 4 wr mb k (zcb keys k)∧Below mb W1 wr
theorem zgv (A:Option Addr) (c B:Nat) (xs:List (ByteArray × ByteArray)) (w:World) (hB:B≤w.heap.size) (hr:Rws RuleC 2 w B A xs.length xs) (hn:xs.length≤1000) (hF:∀ (k:Nat) (y:ByteArray × ByteArray),xs[k]? = some y→RuleF xs k y) :
 Calls r 174 #[C #[(.func (.func 162) #[] #[]),(.func (.func 164) #[] #[]),(.func (.func 165) #[] #[])],v A xs.length c] w (zaU 0 w):=by
 have hmm := @run_makeMap r;have hfn:∀ w:World,(binOp BinOp.eql 257 (.func (.func 165) #[] #[]) Value.nilFunc).run r w = .ok (D false) w:=fun _=>by kernel_rfl
 have HF:=Hd hF;have HR:=Hd hr;clear hF hr;have hb0:=zaa w (f #[(.func (.func 162) #[] #[]),(.func (.func 164) #[] #[]),(.func (.func 165) #[] #[])] 259);have hb1:=hb0.trans ((zaa (w.alloc (f #[(.func (.func 162) #[] #[]),(.func (.func 164) #[] #[]),(.func (.func 165) #[] #[])] 259)) (Obj.map #[] 0)).mono hb0.size);have HM0:=Hd (by rw [zbu,show w.heap.size+1=(w.alloc (f #[(.func (.func 162) #[] #[]),(.func (.func 164) #[] #[]),(.func (.func 165) #[] #[])] 259)).heap.size by simp];exact MapS.made r 9 4 _:MapS r 9 4 ((w.alloc (f #[(.func (.func 162) #[] #[]),(.func (.func 164) #[] #[]),(.func (.func 165) #[] #[])] 259)).alloc (Obj.map #[] 0)) (w.heap.size+1) 0 (zcb (xs.map (·.1)) 0));have s0:((w.alloc (f #[(.func (.func 162) #[] #[]),(.func (.func 164) #[] #[]),(.func (.func 165) #[] #[])] 259)).alloc (Obj.map #[] 0)).cell? ⟨w.heap.size,0,g⟩=some (.func (.func 162) #[] #[]):=by simp
 have s1:((w.alloc (f #[(.func (.func 162) #[] #[]),(.func (.func 164) #[] #[]),(.func (.func 165) #[] #[])] 259)).alloc (Obj.map #[] 0)).cell? ⟨w.heap.size,1,g⟩=some (.func (.func 164) #[] #[]):=by simp
 have s2:((w.alloc (f #[(.func (.func 162) #[] #[]),(.func (.func 164) #[] #[]),(.func (.func 165) #[] #[])] 259)).alloc (Obj.map #[] 0)).cell? ⟨w.heap.size,2,g⟩=some (.func (.func 165) #[] #[]):=by simp
 have hm1:w.heap.size<w.heap.size+1:=H _;have hz1:w.heap.size+1<((w.alloc (f #[(.func (.func 162) #[] #[]),(.func (.func 164) #[] #[]),(.func (.func 165) #[] #[])] 259)).alloc (Obj.map #[] 0)).heap.size:=by simp
 clear hb0;have HB1:=Hd hb1;clear hb1;go_enter Tryz.func174,Tryz.ntmps174
 go_upto_region 2 with fail
 clear hmm;generalize (w.alloc (f #[(.func (.func 162) #[] #[]),(.func (.func 164) #[] #[]),(.func (.func 165) #[] #[])] 259)).alloc (Obj.map #[] 0)=W1 at *;generalize w.heap.size+1=mb at *;go_wp2
 go_loopw [12] (FsR mb W1 (xs.map (·.1)) xs.length) (fun i _=>xs.length-(intOf i).toNat)
 case atStart=>exact ⟨0,G _,rfl,HM0.out,Below.refl _ _⟩
 case round =>
  obtain ⟨k,hk,rfl,hmap,hbel⟩:=hrel;have hwb:=HB1.out.trans (hbel.mono (z hm1));have hsw:=hwb.size;have hbs:=hbel.size;have gm:=hmap.block;obtain ⟨t0,t1,t2⟩:=kb3 hbel hm1 ⟨s0,s1,s2⟩
  by_cases hlt:k<xs.length
  · obtain ⟨b,o,cs,x,rfl,hbB,hx,-,⟨rfl,hsx,-⟩,hat⟩:=(HR.out.mono RuleC.mono (E _) (hwb.mono hB)).at_ hlt
    have x_0:=zae hat 0 rfl
    have x_1:=zae hat 1 rfl
    simp only [I] at x_0
    have hbw:b<wr.heap.size:=by omega
    have hbx:=zaa wr (f #[d x.1,d x.2] 148)
    have gxwx:wr.heap.size<(wr.alloc (f #[d x.1,d x.2] 148)).heap.size:=by simp
    have gawx:w.heap.size<(wr.alloc (f #[d x.1,d x.2] 148)).heap.size:=by simp;omega
    have F:=HF.out k x hx
    have ywx_0:(wr.alloc (f #[d x.1,d x.2] 148)).cell? ⟨wr.heap.size,0,g⟩=some (d x.1):=by simp
    have ywx_1:(wr.alloc (f #[d x.1,d x.2] 148)).cell? ⟨wr.heap.size,1,g⟩=some (d x.2):=by simp
    obtain ⟨uwx_0,uwx_1,uwx_2⟩:=kb3 hbx (by show w.heap.size<wr.heap.size;omega) ⟨t0,t1,t2⟩
    have HV:=Hd (show Calls r 162 #[C #[d x.1,d x.2]] (wr.alloc (f #[d x.1,d x.2] 148)) _ from zgU x _ F.name F.free)
    have hkx:(xs.map (·.1))[k]? = some (x.1):=by rw [J,hx];rfl
    have hsx':(x.1).size≤maxLen:=hsx
    have hap:=F.apart
    have HM:=Hd hmap
    have HX:=Hd hkx
    have HAP:=Hd hap
    have HBX:=Hd hbx
    have HBEL:=Hd hbel
    have HRC:=Hd (fun W:World=>(show Calls r 165 #[C #[d x.1,d x.2]] W _ from zhO x _ F.text))
    have HMX:=Hd (hmap.below hbx gm)
    clear hmap hbel hx hkx hap hbx hat hsx F hwb
    go_wp2_with fail
    generalize wr.alloc (f #[d x.1,d x.2] 148)=wx at *
    refine HV.out.mono ?_
    rintro e w2 ⟨rfl,hb2⟩
    have gxw2:wr.heap.size<w2.heap.size:=j gxwx hb2.size
    have gaw2:w.heap.size<w2.heap.size:=j gawx hb2.size
    have yw2_0:=(hb2.cell (p:=⟨wr.heap.size,0,g⟩) gxwx).trans ywx_0
    have yw2_1:=(hb2.cell (p:=⟨wr.heap.size,1,g⟩) gxwx).trans ywx_1
    obtain ⟨uw2_0,uw2_1,uw2_2⟩:=kb3 hb2 gawx ⟨uwx_0,uwx_1,uwx_2⟩
    have HM2:=Hd (HMX.out.below hb2 (Nat.lt_trans gm gxwx))
    have HB2:=Hd hb2
    clear hb2
    clear ywx_0 ywx_1 uwx_0 uwx_1 uwx_2
    go_wp2_with fail
    refine (zfi x.1 x.2 _).mono ?_
    rintro e w3 ⟨rfl,hb3⟩
    have gxw3:wr.heap.size<w3.heap.size:=j gxw2 hb3.size
    have gaw3:w.heap.size<w3.heap.size:=j gaw2 hb3.size
    have yw3_0:=(hb3.cell (p:=⟨wr.heap.size,0,g⟩) gxw2).trans yw2_0
    have yw3_1:=(hb3.cell (p:=⟨wr.heap.size,1,g⟩) gxw2).trans yw2_1
    obtain ⟨uw3_0,uw3_1,uw3_2⟩:=kb3 hb3 gaw2 ⟨uw2_0,uw2_1,uw2_2⟩
    have hm3:=HM2.out.below hb3 (Nat.lt_trans gm gxw2)
    have HM3:=Hd hm3
    have HB3:=Hd hb3
    have hlk:=zc8 (t := 233) hm3 Tryz.underlying9 Tryz.underlying233 (zbQ _) hsx' HAP.out
    clear hb3 hm3
    clear yw2_0 yw2_1 uw2_0 uw2_1 uw2_2
    go_wp2_with fail
    clear hlk
    refine (zfi x.1 x.2 _).mono ?_
    rintro e w4 ⟨rfl,hb4⟩
    have gxw4:wr.heap.size<w4.heap.size:=j gxw3 hb4.size
    have gaw4:w.heap.size<w4.heap.size:=j gaw3 hb4.size
    have yw4_0:=(hb4.cell (p:=⟨wr.heap.size,0,g⟩) gxw3).trans yw3_0
    have yw4_1:=(hb4.cell (p:=⟨wr.heap.size,1,g⟩) gxw3).trans yw3_1
    obtain ⟨uw4_0,uw4_1,uw4_2⟩:=kb3 hb4 gaw3 ⟨uw3_0,uw3_1,uw3_2⟩
    have hm4:=HM3.out.below hb4 (Nat.lt_trans gm gxw3)
    have HB4:=Hd hb4
    have hl4:=hm4.block
    obtain ⟨w5,hup,hm5,hg⟩:=hm4.store (t := 233) Tryz.underlying9 Tryz.underlying233 (by unfold maxLen;omega) hsx' (plainElem_bool Tryz.underlying4 true)
    have nex:some wr.heap.size≠some mb:=fun q=>by injection q;omega
    have nea:some w.heap.size≠some mb:=fun q=>by injection q;omega
    have yw5_0:=(u (a:=⟨wr.heap.size,0,g⟩) (hg.block wr.heap.size gxw4 nex)).trans yw4_0
    have yw5_1:=(u (a:=⟨wr.heap.size,1,g⟩) (hg.block wr.heap.size gxw4 nex)).trans yw4_1
    have uw5_0:=(u (a:=⟨w.heap.size,0,g⟩) (hg.block w.heap.size gaw4 nea)).trans uw4_0
    have uw5_1:=(u (a:=⟨w.heap.size,1,g⟩) (hg.block w.heap.size gaw4 nea)).trans uw4_1
    have uw5_2:=(u (a:=⟨w.heap.size,2,g⟩) (hg.block w.heap.size gaw4 nea)).trans uw4_2
    have HM5:=Hd hm5
    have HG5:=Hd hg
    have HL4:=Hd hl4
    clear hm4 hm5 hg hb4 hl4 nex nea
    clear yw3_0 yw3_1 uw3_0 uw3_1 uw3_2
    go_wp2_with fail
    refine (HRC.out _).mono ?_
    rintro e w6 ⟨rfl,hb6⟩
    have HB6:=Hd hb6
    clear hb6
    go_wp2
    go_roundw
    case rel=>exact ⟨k+1,by omega,by go_num,by rw [zbt HX.out];exact (HM5.out.below HB6.out (j HL4.out HG5.out.size)),((((((HBEL.out.trans (HBX.out.mono (z gm))).trans (HB2.out.mono (by omega))).trans (HB3.out.mono (by omega))).trans (HB4.out.mono (by omega))).trans (zaO HG5.out (z HL4.out))).trans (HB6.out.mono (z (j HL4.out HG5.out.size))))⟩
    case measure=>simp [intOf];omega
  · go_wp2
    go_ret
    exact ⟨rfl,hwb⟩
theorem zhp (A:Option Addr) (c B:Nat) (xs:List (ByteArray × List ByteArray)) (w:World) (hB:B≤w.heap.size) (hr:Rws SetC 2 w B A xs.length xs) (hn:xs.length≤1000) (hF:∀ (k:Nat) (y:ByteArray × List ByteArray),xs[k]? = some y→SetF xs k y) (hset:∀ (k:Nat) (y:ByteArray × List ByteArray),xs[k]? = some y→y.2.length≤1000) :
 Calls r 175 #[C #[(.func (.func 166) #[] #[]),(.func (.func 168) #[] #[]),.nilFunc],v A xs.length c] w (zaU 0 w):=by
 have hmm := @run_makeMap r;have hfn:∀ w:World,(binOp BinOp.eql 262 .nilFunc Value.nilFunc).run r w = .ok (D true) w:=fun _=>by kernel_rfl
 have HF:=Hd hF;have HR:=Hd hr;have HSE:=Hd hset;clear hset;clear hF hr;have hb0:=zaa w (f #[(.func (.func 166) #[] #[]),(.func (.func 168) #[] #[]),.nilFunc] 264);have hb1:=hb0.trans ((zaa (w.alloc (f #[(.func (.func 166) #[] #[]),(.func (.func 168) #[] #[]),.nilFunc] 264)) (Obj.map #[] 0)).mono hb0.size);have HM0:=Hd (by rw [zbu,show w.heap.size+1=(w.alloc (f #[(.func (.func 166) #[] #[]),(.func (.func 168) #[] #[]),.nilFunc] 264)).heap.size by simp];exact MapS.made r 9 4 _:MapS r 9 4 ((w.alloc (f #[(.func (.func 166) #[] #[]),(.func (.func 168) #[] #[]),.nilFunc] 264)).alloc (Obj.map #[] 0)) (w.heap.size+1) 0 (zcb (xs.map (·.1)) 0));have s0:((w.alloc (f #[(.func (.func 166) #[] #[]),(.func (.func 168) #[] #[]),.nilFunc] 264)).alloc (Obj.map #[] 0)).cell? ⟨w.heap.size,0,g⟩=some (.func (.func 166) #[] #[]):=by simp
 have s1:((w.alloc (f #[(.func (.func 166) #[] #[]),(.func (.func 168) #[] #[]),.nilFunc] 264)).alloc (Obj.map #[] 0)).cell? ⟨w.heap.size,1,g⟩=some (.func (.func 168) #[] #[]):=by simp
 have s2:((w.alloc (f #[(.func (.func 166) #[] #[]),(.func (.func 168) #[] #[]),.nilFunc] 264)).alloc (Obj.map #[] 0)).cell? ⟨w.heap.size,2,g⟩=some .nilFunc:=by simp
 have hm1:w.heap.size<w.heap.size+1:=H _;have hz1:w.heap.size+1<((w.alloc (f #[(.func (.func 166) #[] #[]),(.func (.func 168) #[] #[]),.nilFunc] 264)).alloc (Obj.map #[] 0)).heap.size:=by simp
 clear hb0;have HB1:=Hd hb1;clear hb1;go_enter Tryz.func175,Tryz.ntmps175
 go_upto_region 2 with fail
 clear hmm;generalize (w.alloc (f #[(.func (.func 166) #[] #[]),(.func (.func 168) #[] #[]),.nilFunc] 264)).alloc (Obj.map #[] 0)=W1 at *;generalize w.heap.size+1=mb at *;go_wp2
 go_loopw [12] (FsR mb W1 (xs.map (·.1)) xs.length) (fun i _=>xs.length-(intOf i).toNat)
 case atStart=>exact ⟨0,G _,rfl,HM0.out,Below.refl _ _⟩
 case round =>
  obtain ⟨k,hk,rfl,hmap,hbel⟩:=hrel;have hwb:=HB1.out.trans (hbel.mono (z hm1));have hsw:=hwb.size;have hbs:=hbel.size;have gm:=hmap.block;obtain ⟨t0,t1,t2⟩:=kb3 hbel hm1 ⟨s0,s1,s2⟩
  by_cases hlt:k<xs.length
  · obtain ⟨b,o,cs,x,rfl,hbB,hx,-,⟨a1,rfl,hsx,A2,k2,e2,l2,m2,R2⟩,hat⟩:=(HR.out.mono SetC.mono (E _) (hwb.mono hB)).at_ hlt
    cases e2
    have x_0:=zae hat 0 rfl
    have x_1:=zae hat 1 rfl
    simp only [I] at x_0
    have hbw:b<wr.heap.size:=by omega
    have hbx:=zaa wr (f #[d x.1,v A2 x.2.length k2] 146)
    have gxwx:wr.heap.size<(wr.alloc (f #[d x.1,v A2 x.2.length k2] 146)).heap.size:=by simp
    have gawx:w.heap.size<(wr.alloc (f #[d x.1,v A2 x.2.length k2] 146)).heap.size:=by simp;omega
    have F:=HF.out k x hx
    have ywx_0:(wr.alloc (f #[d x.1,v A2 x.2.length k2] 146)).cell? ⟨wr.heap.size,0,g⟩=some (d x.1):=by simp
    have ywx_1:(wr.alloc (f #[d x.1,v A2 x.2.length k2] 146)).cell? ⟨wr.heap.size,1,g⟩=some (v A2 x.2.length k2):=by simp
    obtain ⟨uwx_0,uwx_1,uwx_2⟩:=kb3 hbx (by show w.heap.size<wr.heap.size;omega) ⟨t0,t1,t2⟩
    have HN:=Hd (HSE.out k x hx)
    have HV:=Hd (show Calls r 166 #[C #[d x.1,v A2 x.2.length k2]] (wr.alloc (f #[d x.1,v A2 x.2.length k2] 146)) _ from zhS x A2 k2 B _ (by have:=hbx.size;omega) (R2.mono StrC.mono (E _) (hbx.mono (by omega))) HN.out F.name F.sigs)
    have hkx:(xs.map (·.1))[k]? = some (x.1):=by rw [J,hx];rfl
    have hsx':(x.1).size≤maxLen:=hsx
    have hap:=F.apart
    have HM:=Hd hmap
    have HX:=Hd hkx
    have HAP:=Hd hap
    have HBX:=Hd hbx
    have HBEL:=Hd hbel
    have HMX:=Hd (hmap.below hbx gm)
    clear hmap hbel hx hkx hap hbx hat hsx F hwb
    go_wp2_with fail
    generalize wr.alloc (f #[d x.1,v A2 x.2.length k2] 146)=wx at *
    refine HV.out.mono ?_
    rintro e w2 ⟨rfl,hb2⟩
    have gxw2:wr.heap.size<w2.heap.size:=j gxwx hb2.size
    have gaw2:w.heap.size<w2.heap.size:=j gawx hb2.size
    have yw2_0:=(hb2.cell (p:=⟨wr.heap.size,0,g⟩) gxwx).trans ywx_0
    have yw2_1:=(hb2.cell (p:=⟨wr.heap.size,1,g⟩) gxwx).trans ywx_1
    obtain ⟨uw2_0,uw2_1,uw2_2⟩:=kb3 hb2 gawx ⟨uwx_0,uwx_1,uwx_2⟩
    have HM2:=Hd (HMX.out.below hb2 (Nat.lt_trans gm gxwx))
    have HB2:=Hd hb2
    clear hb2
    clear ywx_0 ywx_1 uwx_0 uwx_1 uwx_2
    go_wp2_with fail
    refine (zg1 x.1 (v A2 x.2.length k2) _).mono ?_
    rintro e w3 ⟨rfl,hb3⟩
    have gxw3:wr.heap.size<w3.heap.size:=j gxw2 hb3.size
    have gaw3:w.heap.size<w3.heap.size:=j gaw2 hb3.size
    have yw3_0:=(hb3.cell (p:=⟨wr.heap.size,0,g⟩) gxw2).trans yw2_0
    have yw3_1:=(hb3.cell (p:=⟨wr.heap.size,1,g⟩) gxw2).trans yw2_1
    obtain ⟨uw3_0,uw3_1,uw3_2⟩:=kb3 hb3 gaw2 ⟨uw2_0,uw2_1,uw2_2⟩
    have hm3:=HM2.out.below hb3 (Nat.lt_trans gm gxw2)
    have HM3:=Hd hm3
    have HB3:=Hd hb3
    have hlk:=zc8 (t := 233) hm3 Tryz.underlying9 Tryz.underlying233 (zbQ _) hsx' HAP.out
    clear hb3 hm3
    clear yw2_0 yw2_1 uw2_0 uw2_1 uw2_2
    go_wp2_with fail
    clear hlk
    refine (zg1 x.1 (v A2 x.2.length k2) _).mono ?_
    rintro e w4 ⟨rfl,hb4⟩
    have gxw4:wr.heap.size<w4.heap.size:=j gxw3 hb4.size
    have gaw4:w.heap.size<w4.heap.size:=j gaw3 hb4.size
    have yw4_0:=(hb4.cell (p:=⟨wr.heap.size,0,g⟩) gxw3).trans yw3_0
    have yw4_1:=(hb4.cell (p:=⟨wr.heap.size,1,g⟩) gxw3).trans yw3_1
    obtain ⟨uw4_0,uw4_1,uw4_2⟩:=kb3 hb4 gaw3 ⟨uw3_0,uw3_1,uw3_2⟩
    have hm4:=HM3.out.below hb4 (Nat.lt_trans gm gxw3)
    have HB4:=Hd hb4
    have hl4:=hm4.block
    obtain ⟨w5,hup,hm5,hg⟩:=hm4.store (t := 233) Tryz.underlying9 Tryz.underlying233 (by unfold maxLen;omega) hsx' (plainElem_bool Tryz.underlying4 true)
    have nex:some wr.heap.size≠some mb:=fun q=>by injection q;omega
    have nea:some w.heap.size≠some mb:=fun q=>by injection q;omega
    have yw5_0:=(u (a:=⟨wr.heap.size,0,g⟩) (hg.block wr.heap.size gxw4 nex)).trans yw4_0
    have yw5_1:=(u (a:=⟨wr.heap.size,1,g⟩) (hg.block wr.heap.size gxw4 nex)).trans yw4_1
    have uw5_0:=(u (a:=⟨w.heap.size,0,g⟩) (hg.block w.heap.size gaw4 nea)).trans uw4_0
    have uw5_1:=(u (a:=⟨w.heap.size,1,g⟩) (hg.block w.heap.size gaw4 nea)).trans uw4_1
    have uw5_2:=(u (a:=⟨w.heap.size,2,g⟩) (hg.block w.heap.size gaw4 nea)).trans uw4_2
    have HM5:=Hd hm5
    have HG5:=Hd hg
    have HL4:=Hd hl4
    clear hm4 hm5 hg hb4 hl4 nex nea
    clear yw3_0 yw3_1 uw3_0 uw3_1 uw3_2
    go_wp2
    go_roundw
    case rel=>exact ⟨k+1,by omega,by go_num,by rw [zbt HX.out];exact HM5.out,(((((HBEL.out.trans (HBX.out.mono (z gm))).trans (HB2.out.mono (by omega))).trans (HB3.out.mono (by omega))).trans (HB4.out.mono (by omega))).trans (zaO HG5.out (z HL4.out)))⟩
    case measure=>simp [intOf];omega
  · go_wp2
    go_ret
    exact ⟨rfl,hwb⟩
theorem zho (A:Option Addr) (c B:Nat) (xs:List (PubN)) (w:World) (hB:B≤w.heap.size) (hr:Rws PubNC 3 w B A xs.length xs) (hn:xs.length≤1000) (hF:∀ (k:Nat) (y:PubN),xs[k]? = some y→PubF xs k y) :
 Calls r 176 #[C #[(.func (.func 169) #[] #[]),(.func (.func 170) #[] #[]),(.func (.func 171) #[] #[])],v A xs.length c] w (zaU 0 w):=by
 have hmm := @run_makeMap r;have hfn:∀ w:World,(binOp BinOp.eql 266 (.func (.func 171) #[] #[]) Value.nilFunc).run r w = .ok (D false) w:=fun _=>by kernel_rfl
 have HF:=Hd hF;have HR:=Hd hr;clear hF hr;have hb0:=zaa w (f #[(.func (.func 169) #[] #[]),(.func (.func 170) #[] #[]),(.func (.func 171) #[] #[])] 268);have hb1:=hb0.trans ((zaa (w.alloc (f #[(.func (.func 169) #[] #[]),(.func (.func 170) #[] #[]),(.func (.func 171) #[] #[])] 268)) (Obj.map #[] 0)).mono hb0.size);have HM0:=Hd (by rw [zbu,show w.heap.size+1=(w.alloc (f #[(.func (.func 169) #[] #[]),(.func (.func 170) #[] #[]),(.func (.func 171) #[] #[])] 268)).heap.size by simp];exact MapS.made r 9 4 _:MapS r 9 4 ((w.alloc (f #[(.func (.func 169) #[] #[]),(.func (.func 170) #[] #[]),(.func (.func 171) #[] #[])] 268)).alloc (Obj.map #[] 0)) (w.heap.size+1) 0 (zcb (xs.map (·.set)) 0));have s0:((w.alloc (f #[(.func (.func 169) #[] #[]),(.func (.func 170) #[] #[]),(.func (.func 171) #[] #[])] 268)).alloc (Obj.map #[] 0)).cell? ⟨w.heap.size,0,g⟩=some (.func (.func 169) #[] #[]):=by simp
 have s1:((w.alloc (f #[(.func (.func 169) #[] #[]),(.func (.func 170) #[] #[]),(.func (.func 171) #[] #[])] 268)).alloc (Obj.map #[] 0)).cell? ⟨w.heap.size,1,g⟩=some (.func (.func 170) #[] #[]):=by simp
 have s2:((w.alloc (f #[(.func (.func 169) #[] #[]),(.func (.func 170) #[] #[]),(.func (.func 171) #[] #[])] 268)).alloc (Obj.map #[] 0)).cell? ⟨w.heap.size,2,g⟩=some (.func (.func 171) #[] #[]):=by simp
 have hm1:w.heap.size<w.heap.size+1:=H _;have hz1:w.heap.size+1<((w.alloc (f #[(.func (.func 169) #[] #[]),(.func (.func 170) #[] #[]),(.func (.func 171) #[] #[])] 268)).alloc (Obj.map #[] 0)).heap.size:=by simp
 clear hb0;have HB1:=Hd hb1;clear hb1;go_enter Tryz.func176,Tryz.ntmps176
 go_upto_region 2 with fail
 clear hmm;generalize (w.alloc (f #[(.func (.func 169) #[] #[]),(.func (.func 170) #[] #[]),(.func (.func 171) #[] #[])] 268)).alloc (Obj.map #[] 0)=W1 at *;generalize w.heap.size+1=mb at *;go_wp2
 go_loopw [12] (FsR mb W1 (xs.map (·.set)) xs.length) (fun i _=>xs.length-(intOf i).toNat)
 case atStart=>exact ⟨0,G _,rfl,HM0.out,Below.refl _ _⟩
 case round =>
  obtain ⟨k,hk,rfl,hmap,hbel⟩:=hrel;have hwb:=HB1.out.trans (hbel.mono (z hm1));have hsw:=hwb.size;have hbs:=hbel.size;have gm:=hmap.block;obtain ⟨t0,t1,t2⟩:=kb3 hbel hm1 ⟨s0,s1,s2⟩
  by_cases hlt:k<xs.length
  · obtain ⟨b,o,cs,x,rfl,hbB,hx,-,⟨rfl,hsx⟩,hat⟩:=(HR.out.mono PubNC.mono (E _) (hwb.mono hB)).at_ hlt
    have x_0:=zae hat 0 rfl
    have x_1:=zae hat 1 rfl
    have x_2:=zae hat 2 rfl
    simp only [I] at x_0
    have hbw:b<wr.heap.size:=by omega
    have hbx:=zaa wr (f #[d x.set,l m x.first,l m x.max] 158)
    have gxwx:wr.heap.size<(wr.alloc (f #[d x.set,l m x.first,l m x.max] 158)).heap.size:=by simp
    have gawx:w.heap.size<(wr.alloc (f #[d x.set,l m x.first,l m x.max] 158)).heap.size:=by simp;omega
    have F:=HF.out k x hx
    have ywx_0:(wr.alloc (f #[d x.set,l m x.first,l m x.max] 158)).cell? ⟨wr.heap.size,0,g⟩=some (d x.set):=by simp
    have ywx_1:(wr.alloc (f #[d x.set,l m x.first,l m x.max] 158)).cell? ⟨wr.heap.size,1,g⟩=some (l m x.first):=by simp
    have ywx_2:(wr.alloc (f #[d x.set,l m x.first,l m x.max] 158)).cell? ⟨wr.heap.size,2,g⟩=some (l m x.max):=by simp
    obtain ⟨uwx_0,uwx_1,uwx_2⟩:=kb3 hbx (by show w.heap.size<wr.heap.size;omega) ⟨t0,t1,t2⟩
    have HV:=Hd (show Calls r 169 #[C #[d x.set,l m x.first,l m x.max]] (wr.alloc (f #[d x.set,l m x.first,l m x.max] 158)) _ from zhG x _ F.name)
    have hkx:(xs.map (·.set))[k]? = some (x.set):=by rw [J,hx];rfl
    have hsx':(x.set).size≤maxLen:=hsx
    have hap:=F.apart
    have HM:=Hd hmap
    have HX:=Hd hkx
    have HAP:=Hd hap
    have HBX:=Hd hbx
    have HBEL:=Hd hbel
    have HRC:=Hd (fun W:World=>(show Calls r 171 #[C #[d x.set,l m x.first,l m x.max]] W _ from zgz x _ F.first F.max))
    have HMX:=Hd (hmap.below hbx gm)
    clear hmap hbel hx hkx hap hbx hat hsx F hwb
    go_wp2_with fail
    generalize wr.alloc (f #[d x.set,l m x.first,l m x.max] 158)=wx at *
    refine HV.out.mono ?_
    rintro e w2 ⟨rfl,hb2⟩
    have gxw2:wr.heap.size<w2.heap.size:=j gxwx hb2.size
    have gaw2:w.heap.size<w2.heap.size:=j gawx hb2.size
    obtain ⟨yw2_0,yw2_1,yw2_2⟩:=kb3 hb2 gxwx ⟨ywx_0,ywx_1,ywx_2⟩
    obtain ⟨uw2_0,uw2_1,uw2_2⟩:=kb3 hb2 gawx ⟨uwx_0,uwx_1,uwx_2⟩
    have HM2:=Hd (HMX.out.below hb2 (Nat.lt_trans gm gxwx))
    have HB2:=Hd hb2
    clear hb2
    clear ywx_0 ywx_1 ywx_2 uwx_0 uwx_1 uwx_2
    go_wp2_with fail
    refine (zgF x.set (l m x.first) (l m x.max) _).mono ?_
    rintro e w3 ⟨rfl,hb3⟩
    have gxw3:wr.heap.size<w3.heap.size:=j gxw2 hb3.size
    have gaw3:w.heap.size<w3.heap.size:=j gaw2 hb3.size
    obtain ⟨yw3_0,yw3_1,yw3_2⟩:=kb3 hb3 gxw2 ⟨yw2_0,yw2_1,yw2_2⟩
    obtain ⟨uw3_0,uw3_1,uw3_2⟩:=kb3 hb3 gaw2 ⟨uw2_0,uw2_1,uw2_2⟩
    have hm3:=HM2.out.below hb3 (Nat.lt_trans gm gxw2)
    have HM3:=Hd hm3
    have HB3:=Hd hb3
    have hlk:=zc8 (t := 233) hm3 Tryz.underlying9 Tryz.underlying233 (zbQ _) hsx' HAP.out
    clear hb3 hm3
    clear yw2_0 yw2_1 yw2_2 uw2_0 uw2_1 uw2_2
    go_wp2_with fail
    clear hlk
    refine (zgF x.set (l m x.first) (l m x.max) _).mono ?_
    rintro e w4 ⟨rfl,hb4⟩
    have gxw4:wr.heap.size<w4.heap.size:=j gxw3 hb4.size
    have gaw4:w.heap.size<w4.heap.size:=j gaw3 hb4.size
    obtain ⟨yw4_0,yw4_1,yw4_2⟩:=kb3 hb4 gxw3 ⟨yw3_0,yw3_1,yw3_2⟩
    obtain ⟨uw4_0,uw4_1,uw4_2⟩:=kb3 hb4 gaw3 ⟨uw3_0,uw3_1,uw3_2⟩
    have hm4:=HM3.out.below hb4 (Nat.lt_trans gm gxw3)
    have HB4:=Hd hb4
    have hl4:=hm4.block
    obtain ⟨w5,hup,hm5,hg⟩:=hm4.store (t := 233) Tryz.underlying9 Tryz.underlying233 (by unfold maxLen;omega) hsx' (plainElem_bool Tryz.underlying4 true)
    have nex:some wr.heap.size≠some mb:=fun q=>by injection q;omega
    have nea:some w.heap.size≠some mb:=fun q=>by injection q;omega
    have yw5_0:=(u (a:=⟨wr.heap.size,0,g⟩) (hg.block wr.heap.size gxw4 nex)).trans yw4_0
    have yw5_1:=(u (a:=⟨wr.heap.size,1,g⟩) (hg.block wr.heap.size gxw4 nex)).trans yw4_1
    have yw5_2:=(u (a:=⟨wr.heap.size,2,g⟩) (hg.block wr.heap.size gxw4 nex)).trans yw4_2
    have uw5_0:=(u (a:=⟨w.heap.size,0,g⟩) (hg.block w.heap.size gaw4 nea)).trans uw4_0
    have uw5_1:=(u (a:=⟨w.heap.size,1,g⟩) (hg.block w.heap.size gaw4 nea)).trans uw4_1
    have uw5_2:=(u (a:=⟨w.heap.size,2,g⟩) (hg.block w.heap.size gaw4 nea)).trans uw4_2
    have HM5:=Hd hm5
    have HG5:=Hd hg
    have HL4:=Hd hl4
    clear hm4 hm5 hg hb4 hl4 nex nea
    clear yw3_0 yw3_1 yw3_2 uw3_0 uw3_1 uw3_2
    go_wp2_with fail
    refine (HRC.out _).mono ?_
    rintro e w6 ⟨rfl,hb6⟩
    have HB6:=Hd hb6
    clear hb6
    go_wp2
    go_roundw
    case rel=>exact ⟨k+1,by omega,by go_num,by rw [zbt HX.out];exact (HM5.out.below HB6.out (j HL4.out HG5.out.size)),((((((HBEL.out.trans (HBX.out.mono (z gm))).trans (HB2.out.mono (by omega))).trans (HB3.out.mono (by omega))).trans (HB4.out.mono (by omega))).trans (zaO HG5.out (z HL4.out))).trans (HB6.out.mono (z (j HL4.out HG5.out.size))))⟩
    case measure=>simp [intOf];omega
  · go_wp2
    go_ret
    exact ⟨rfl,hwb⟩
theorem zhq (A:Option Addr) (c B:Nat) (xs:List (SubM)) (w:World) (hB:B≤w.heap.size) (hr:Rws SubC 4 w B A xs.length xs) (hn:xs.length≤1000) (hF:∀ (k:Nat) (y:SubM),xs[k]? = some y→SubF xs k y) :
 Calls r 177 #[C #[(.func (.func 172) #[] #[]),(.func (.func 173) #[] #[]),.nilFunc],v A xs.length c] w (zaU 0 w):=by
 have hmm := @run_makeMap r;have hfn:∀ w:World,(binOp BinOp.eql 271 .nilFunc Value.nilFunc).run r w = .ok (D true) w:=fun _=>by kernel_rfl
 have HF:=Hd hF;have HR:=Hd hr;clear hF hr;have hb0:=zaa w (f #[(.func (.func 172) #[] #[]),(.func (.func 173) #[] #[]),.nilFunc] 273);have hb1:=hb0.trans ((zaa (w.alloc (f #[(.func (.func 172) #[] #[]),(.func (.func 173) #[] #[]),.nilFunc] 273)) (Obj.map #[] 0)).mono hb0.size);have HM0:=Hd (by rw [zbu,show w.heap.size+1=(w.alloc (f #[(.func (.func 172) #[] #[]),(.func (.func 173) #[] #[]),.nilFunc] 273)).heap.size by simp];exact MapS.made r 9 4 _:MapS r 9 4 ((w.alloc (f #[(.func (.func 172) #[] #[]),(.func (.func 173) #[] #[]),.nilFunc] 273)).alloc (Obj.map #[] 0)) (w.heap.size+1) 0 (zcb (xs.map (·.loc)) 0));have s0:((w.alloc (f #[(.func (.func 172) #[] #[]),(.func (.func 173) #[] #[]),.nilFunc] 273)).alloc (Obj.map #[] 0)).cell? ⟨w.heap.size,0,g⟩=some (.func (.func 172) #[] #[]):=by simp
 have s1:((w.alloc (f #[(.func (.func 172) #[] #[]),(.func (.func 173) #[] #[]),.nilFunc] 273)).alloc (Obj.map #[] 0)).cell? ⟨w.heap.size,1,g⟩=some (.func (.func 173) #[] #[]):=by simp
 have s2:((w.alloc (f #[(.func (.func 172) #[] #[]),(.func (.func 173) #[] #[]),.nilFunc] 273)).alloc (Obj.map #[] 0)).cell? ⟨w.heap.size,2,g⟩=some .nilFunc:=by simp
 have hm1:w.heap.size<w.heap.size+1:=H _;have hz1:w.heap.size+1<((w.alloc (f #[(.func (.func 172) #[] #[]),(.func (.func 173) #[] #[]),.nilFunc] 273)).alloc (Obj.map #[] 0)).heap.size:=by simp
 clear hb0;have HB1:=Hd hb1;clear hb1;go_enter Tryz.func177,Tryz.ntmps177
 go_upto_region 2 with fail
 clear hmm;generalize (w.alloc (f #[(.func (.func 172) #[] #[]),(.func (.func 173) #[] #[]),.nilFunc] 273)).alloc (Obj.map #[] 0)=W1 at *;generalize w.heap.size+1=mb at *;go_wp2
 go_loopw [12] (FsR mb W1 (xs.map (·.loc)) xs.length) (fun i _=>xs.length-(intOf i).toNat)
 case atStart=>exact ⟨0,G _,rfl,HM0.out,Below.refl _ _⟩
 case round =>
  obtain ⟨k,hk,rfl,hmap,hbel⟩:=hrel;have hwb:=HB1.out.trans (hbel.mono (z hm1));have hsw:=hwb.size;have hbs:=hbel.size;have gm:=hmap.block;obtain ⟨t0,t1,t2⟩:=kb3 hbel hm1 ⟨s0,s1,s2⟩
  by_cases hlt:k<xs.length
  · obtain ⟨b,o,cs,x,rfl,hbB,hx,-,⟨rfl,hsx,-,-,-⟩,hat⟩:=(HR.out.mono SubC.mono (E _) (hwb.mono hB)).at_ hlt
    have x_0:=zae hat 0 rfl
    have x_1:=zae hat 1 rfl
    have x_2:=zae hat 2 rfl
    have x_3:=zae hat 3 rfl
    simp only [I] at x_0
    have hbw:b<wr.heap.size:=by omega
    have hbx:=zaa wr (f #[d x.loc,d x.device,d x.set,d x.signal] 62)
    have gxwx:wr.heap.size<(wr.alloc (f #[d x.loc,d x.device,d x.set,d x.signal] 62)).heap.size:=by simp
    have gawx:w.heap.size<(wr.alloc (f #[d x.loc,d x.device,d x.set,d x.signal] 62)).heap.size:=by simp;omega
    have F:=HF.out k x hx
    have ywx_0:(wr.alloc (f #[d x.loc,d x.device,d x.set,d x.signal] 62)).cell? ⟨wr.heap.size,0,g⟩=some (d x.loc):=by simp
    have ywx_1:(wr.alloc (f #[d x.loc,d x.device,d x.set,d x.signal] 62)).cell? ⟨wr.heap.size,1,g⟩=some (d x.device):=by simp
    have ywx_2:(wr.alloc (f #[d x.loc,d x.device,d x.set,d x.signal] 62)).cell? ⟨wr.heap.size,2,g⟩=some (d x.set):=by simp
    have ywx_3:(wr.alloc (f #[d x.loc,d x.device,d x.set,d x.signal] 62)).cell? ⟨wr.heap.size,3,g⟩=some (d x.signal):=by simp
    obtain ⟨uwx_0,uwx_1,uwx_2⟩:=kb3 hbx (by show w.heap.size<wr.heap.size;omega) ⟨t0,t1,t2⟩
    have HV:=Hd (show Calls r 172 #[C #[d x.loc,d x.device,d x.set,d x.signal]] (wr.alloc (f #[d x.loc,d x.device,d x.set,d x.signal] 62)) _ from zhU x _ F.loc F.device F.set F.signal)
    have hkx:(xs.map (·.loc))[k]? = some (x.loc):=by rw [J,hx];rfl
    have hsx':(x.loc).size≤maxLen:=hsx
    have hap:=F.apart
    have HM:=Hd hmap
    have HX:=Hd hkx
    have HAP:=Hd hap
    have HBX:=Hd hbx
    have HBEL:=Hd hbel
    have HMX:=Hd (hmap.below hbx gm)
    clear hmap hbel hx hkx hap hbx hat hsx F hwb
    go_wp2_with fail
    generalize wr.alloc (f #[d x.loc,d x.device,d x.set,d x.signal] 62)=wx at *
    refine HV.out.mono ?_
    rintro e w2 ⟨rfl,hb2⟩
    have gxw2:wr.heap.size<w2.heap.size:=j gxwx hb2.size
    have gaw2:w.heap.size<w2.heap.size:=j gawx hb2.size
    obtain ⟨yw2_0,yw2_1,yw2_2,yw2_3⟩:=kb4 hb2 gxwx ⟨ywx_0,ywx_1,ywx_2,ywx_3⟩
    obtain ⟨uw2_0,uw2_1,uw2_2⟩:=kb3 hb2 gawx ⟨uwx_0,uwx_1,uwx_2⟩
    have HM2:=Hd (HMX.out.below hb2 (Nat.lt_trans gm gxwx))
    have HB2:=Hd hb2
    clear hb2
    clear ywx_0 ywx_1 ywx_2 ywx_3 uwx_0 uwx_1 uwx_2
    go_wp2_with fail
    refine (zg9 x.loc x.device x.set x.signal _).mono ?_
    rintro e w3 ⟨rfl,hb3⟩
    have gxw3:wr.heap.size<w3.heap.size:=j gxw2 hb3.size
    have gaw3:w.heap.size<w3.heap.size:=j gaw2 hb3.size
    obtain ⟨yw3_0,yw3_1,yw3_2,yw3_3⟩:=kb4 hb3 gxw2 ⟨yw2_0,yw2_1,yw2_2,yw2_3⟩
    obtain ⟨uw3_0,uw3_1,uw3_2⟩:=kb3 hb3 gaw2 ⟨uw2_0,uw2_1,uw2_2⟩
    have hm3:=HM2.out.below hb3 (Nat.lt_trans gm gxw2)
    have HM3:=Hd hm3
    have HB3:=Hd hb3
    have hlk:=zc8 (t := 233) hm3 Tryz.underlying9 Tryz.underlying233 (zbQ _) hsx' HAP.out
    clear hb3 hm3
    clear yw2_0 yw2_1 yw2_2 yw2_3 uw2_0 uw2_1 uw2_2
    go_wp2_with fail
    clear hlk
    refine (zg9 x.loc x.device x.set x.signal _).mono ?_
    rintro e w4 ⟨rfl,hb4⟩
    have gxw4:wr.heap.size<w4.heap.size:=j gxw3 hb4.size
    have gaw4:w.heap.size<w4.heap.size:=j gaw3 hb4.size
    obtain ⟨yw4_0,yw4_1,yw4_2,yw4_3⟩:=kb4 hb4 gxw3 ⟨yw3_0,yw3_1,yw3_2,yw3_3⟩
    obtain ⟨uw4_0,uw4_1,uw4_2⟩:=kb3 hb4 gaw3 ⟨uw3_0,uw3_1,uw3_2⟩
    have hm4:=HM3.out.below hb4 (Nat.lt_trans gm gxw3)
    have HB4:=Hd hb4
    have hl4:=hm4.block
    obtain ⟨w5,hup,hm5,hg⟩:=hm4.store (t := 233) Tryz.underlying9 Tryz.underlying233 (by unfold maxLen;omega) hsx' (plainElem_bool Tryz.underlying4 true)
    have nex:some wr.heap.size≠some mb:=fun q=>by injection q;omega
    have nea:some w.heap.size≠some mb:=fun q=>by injection q;omega
    have yw5_0:=(u (a:=⟨wr.heap.size,0,g⟩) (hg.block wr.heap.size gxw4 nex)).trans yw4_0
    have yw5_1:=(u (a:=⟨wr.heap.size,1,g⟩) (hg.block wr.heap.size gxw4 nex)).trans yw4_1
    have yw5_2:=(u (a:=⟨wr.heap.size,2,g⟩) (hg.block wr.heap.size gxw4 nex)).trans yw4_2
    have yw5_3:=(u (a:=⟨wr.heap.size,3,g⟩) (hg.block wr.heap.size gxw4 nex)).trans yw4_3
    have uw5_0:=(u (a:=⟨w.heap.size,0,g⟩) (hg.block w.heap.size gaw4 nea)).trans uw4_0
    have uw5_1:=(u (a:=⟨w.heap.size,1,g⟩) (hg.block w.heap.size gaw4 nea)).trans uw4_1
    have uw5_2:=(u (a:=⟨w.heap.size,2,g⟩) (hg.block w.heap.size gaw4 nea)).trans uw4_2
    have HM5:=Hd hm5
    have HG5:=Hd hg
    have HL4:=Hd hl4
    clear hm4 hm5 hg hb4 hl4 nex nea
    clear yw3_0 yw3_1 yw3_2 yw3_3 uw3_0 uw3_1 uw3_2
    go_wp2
    go_roundw
    case rel=>exact ⟨k+1,by omega,by go_num,by rw [zbt HX.out];exact HM5.out,(((((HBEL.out.trans (HBX.out.mono (z gm))).trans (HB2.out.mono (by omega))).trans (HB3.out.mono (by omega))).trans (HB4.out.mono (by omega))).trans (zaO HG5.out (z HL4.out)))⟩
    case measure=>simp [intOf];omega
  · go_wp2
    go_ret
    exact ⟨rfl,hwb⟩
end Go.Proofs.YtjkimieapfbhbaaGreatDoor
