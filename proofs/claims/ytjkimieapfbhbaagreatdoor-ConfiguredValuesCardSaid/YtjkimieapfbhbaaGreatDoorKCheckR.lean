/-
 The reference's names of a whole station, and its test of one relay after others.
-/
import Derived.Test.YtjkimieapfbhbaaGreatDoorRTf
import Derived.Test.YtjkimieapfbhbaaGreatDoorRTc
import Derived.Test.YtjkimieapfbhbaaGreatDoorKRTl
import Derived.Test.YtjkimieapfbhbaaGreatDoorKFind
import Derived.Test.YtjkimieapfbhbaaGreatDoorKPubP
import Derived.Test.YtjkimieapfbhbaaGreatDoorKDup
set_option maxRecDepth 100000
set_option maxHeartbeats 16000000
open Go.Value renaming slice → f, string → q, int → v
open Option renaming none → g
open Go.Obj renaming cells → l
open Nat renaming le_refl → u, lt_of_lt_of_le → D, zero_le → F
open Go.RowKit.Below renaming refl → E
open List renaming length_map → G, mem_of_getElem? → I, length_append → J
namespace Go.Proofs.YtjkimieapfbhbaaGreatDoor
open Go.RowKit
theorem zls (S:StatM):S.someNames S.buses.length S.lines.length S.sources.length S.bays.length=S.names.take S.names.length:=by
 rw [List.take_length];simp [StatM.someNames,StatM.names,List.take_of_length_le]
theorem zi2 (B:Nat) (p:StAt) (S:StatM) (w:World) (hB:B≤w.heap.size) (hS:StC w B p S) (hm:StSmall S) :
 Calls Tryz.prog 55 #[.agg #[q S.name,f p.A1 S.buses.length p.c1,f p.A2 S.lines.length p.c2,f p.A3 S.sources.length p.c3,f p.A4 S.bays.length p.c4]] w (RetRow 9 1 S.names.length ((S.names.take S.names.length).map .string) w):=by
 have hb:=zaa w (l #[q S.name,f p.A1 S.buses.length p.c1,f p.A2 S.lines.length p.c2,f p.A3 S.sources.length p.c3,f p.A4 S.bays.length p.c4] 27);have C:=fun W (h:Below w.heap.size w W)=>zcy (p:=p) (S:=S) (a:=S.buses.length) (b:=S.lines.length) (c:=S.sources.length) (d:=S.bays.length) (n:=S.names.length) (W:=W) (B:=B) hm (by have:=h.size;omega) (hS.mono (u _) (h.mono hB)) (u _) (u _) (u _) (u _) (zls S) (by rw [zbv];omega)
 have HC:=Hd C;have HB:=Hd hb;clear C hS;go_enter Tryz.func55,Tryz.ntmps55;go_wp2_with fail
 refine (HC.out _ HB.out).mono ?_
 rintro e w1 ⟨A,c,rfl,-,-,ho,hb1⟩
 have HO:=Hd ho;have HB1:=Hd hb1;clear ho hb1;go_wp2;go_ret
 exact RetRow.mk HO.out (by simp) (Below.then HB.out HB1.out)
def zea (xs:List RelayX) (s:ByteArray) (n:Nat):Prop:=∀ (k:Nat) (y:RelayX),k<n→xs[k]? = some y→same y.r.name s=false
theorem zfF {xs:List RelayX} {s:ByteArray} {n:Nat} {y:RelayX} (h:zea xs s n) (hy:xs[n]? = some y) (hn:same y.r.name s=false):zea xs s (n+1):=by
 intro k z hk hz
 rcases Nat.lt_succ_iff_lt_or_eq.1 hk with h' | rfl
 · exact h k z h' hz
 · rw [hy] at hz;cases hz;exact hn
theorem zgX {xs:List RelayX} {s:ByteArray} {n:Nat} (h:zea xs s n):seen (xs.map (·.r.name)) n s=false:=by
 unfold seen;rw [List.any_eq_false];intro y hy;obtain ⟨k,hk⟩:=List.getElem?_of_mem hy;rw [List.getElem?_take] at hk
 split at hk
 · rename_i hlt
   rw [List.getElem?_map] at hk
   cases hx:xs[k]? with
   | none=>rw [hx] at hk;cases hk
   | some z =>
     rw [hx] at hk
     cases hk
     rw [h k z hlt hx]
     simp
 · cases hk
def OnR (B:Nat) (W:World) (xs:List RelayX) (s:ByteArray) (n:Nat) (i:Value) (wr:World):Prop:=∃ k:Nat,k≤n∧i = v .i64 k∧zea xs s k∧Below B W wr
theorem zie {w:World} {B:Nat} {cs:List Value} {y:RelayX} (h:RelayXC w B cs y):cs[0]? = some (q y.r.name):=h.base.name
attribute [local go_sem ↓] zav zaw
attribute [local go_sem] zay zaz
theorem zkk (B:Nat) (p:StAt) (S:StatM) (A:Option Addr) (c:Nat) (xs:List RelayX) (i:Nat) (hi:i≤xs.length) (hx20:xs.length≤20) (x:RelayX) (cs:List Value) (w:World)
 (hB:B≤w.heap.size) (hS:StC w B p S) (hr:Rws RelayXC 53 w B A xs.length xs) (hX:RelayXC w B cs x) (hm:StSmall S) :
 Calls Tryz.prog 33 #[.agg #[q S.name,f p.A1 S.buses.length p.c1,f p.A2 S.lines.length p.c2,f p.A3 S.sources.length p.c3,f p.A4 S.bays.length p.c4],f A i c,.agg cs.toArray] w
  (ErrSays (RelF S xs i x) w):=by
 have HS:=Hd hS;have HR:=Hd hr;have HX:=Hd hX;have HM:=Hd hm;have HZ:=Hd (zez hS);have hnm:=hX.base.nameLen;have hl:=hX.base.len;have hnl:S.names.length≤1000:=by have:=zbv S;have:=hm.h4;have:=hm.h6;have:=hm.h44;have:=hm.h16;omega
 clear hS hr hm;have CW:=fun W (h:Below w.heap.size w W)=>zi2 B p S W (by have:=h.size;omega) (HS.out.mono (u _) (h.mono hB)) HM.out
 have PW:=fun W (h:Below w.heap.size w W) k n c49 c50 c51 c52 hcs=>zhM B p S A c xs i hi hx20 x.r.name k n c49 c50 c51 c52 cs hcs W (by have:=h.size;omega) (HS.out.mono (u _) (h.mono hB)) (HR.out.mono RelayXC.mono (u _) (h.mono hB))
 have HCW:=Hd CW;have HPW:=Hd PW;clear CW PW;obtain ⟨A1,A2,A3,A4,k1,k2,k3,k4⟩:=p;dsimp only at HCW HPW;have hbx:=zbq w (l #[q S.name,f A1 S.buses.length k1,f A2 S.lines.length k2,f A3 S.sources.length k3,f A4 S.bays.length k4] 27) (l cs.toArray 60);have q0:((w.alloc (l #[q S.name,f A1 S.buses.length k1,f A2 S.lines.length k2,f A3 S.sources.length k3,f A4 S.bays.length k4] 27)).alloc (l cs.toArray 60)).cell? ⟨w.heap.size,0,g⟩=some (q S.name):=by simp
 have q1:((w.alloc (l #[q S.name,f A1 S.buses.length k1,f A2 S.lines.length k2,f A3 S.sources.length k3,f A4 S.bays.length k4] 27)).alloc (l cs.toArray 60)).cell? ⟨w.heap.size,1,g⟩=some (f A1 S.buses.length k1):=by simp
 have q2:((w.alloc (l #[q S.name,f A1 S.buses.length k1,f A2 S.lines.length k2,f A3 S.sources.length k3,f A4 S.bays.length k4] 27)).alloc (l cs.toArray 60)).cell? ⟨w.heap.size,2,g⟩=some (f A2 S.lines.length k2):=by simp
 have q3:((w.alloc (l #[q S.name,f A1 S.buses.length k1,f A2 S.lines.length k2,f A3 S.sources.length k3,f A4 S.bays.length k4] 27)).alloc (l cs.toArray 60)).cell? ⟨w.heap.size,3,g⟩=some (f A3 S.sources.length k3):=by simp
 have q4:((w.alloc (l #[q S.name,f A1 S.buses.length k1,f A2 S.lines.length k2,f A3 S.sources.length k3,f A4 S.bays.length k4] 27)).alloc (l cs.toArray 60)).cell? ⟨w.heap.size,4,g⟩=some (f A4 S.bays.length k4):=by simp
 have q5:((w.alloc (l #[q S.name,f A1 S.buses.length k1,f A2 S.lines.length k2,f A3 S.sources.length k3,f A4 S.bays.length k4] 27)).alloc (l cs.toArray 60)).cell? ⟨w.heap.size+1,0,g⟩=some (q x.r.name):=by
  simpa using zaI (w:=w.alloc (l #[q S.name,f A1 S.buses.length k1,f A2 S.lines.length k2,f A3 S.sources.length k3,f A4 S.bays.length k4] 27)) (cs:=cs) (t := 60) (k:=0) (zie hX)
 have hrow:zbG ((w.alloc (l #[q S.name,f A1 S.buses.length k1,f A2 S.lines.length k2,f A3 S.sources.length k3,f A4 S.bays.length k4] 27)).alloc (l cs.toArray 60)) (w.heap.size+1) 0 53=some cs:=by
  have:=zbs (zck (w.alloc (l #[q S.name,f A1 S.buses.length k1,f A2 S.lines.length k2,f A3 S.sources.length k3,f A4 S.bays.length k4] 27)) cs 60) hl;simpa using this
 have hsz:((w.alloc (l #[q S.name,f A1 S.buses.length k1,f A2 S.lines.length k2,f A3 S.sources.length k3,f A4 S.bays.length k4] 27)).alloc (l cs.toArray 60)).heap.size=w.heap.size+2:=by simp
 have HSZ:=Hd hsz;clear hsz hX hl;go_enter Tryz.func33,Tryz.ntmps33;go_wp2_with fail
 refine (zbf x.r.name _ hnm).mono ?_
 rintro e w1 ⟨b1,t1,rfl,rfl⟩
 cases b1
 · go_wp2
   go_ret
   exact ErrSays.no hbx (by decide)
 have HT1:=Hd (t1 rfl);clear t1;go_wp2_with fail
 generalize (w.alloc (l #[q S.name,f A1 S.buses.length k1,f A2 S.lines.length k2,f A3 S.sources.length k3,f A4 S.bays.length k4] 27)).alloc (l cs.toArray 60)=W at *;have gw1:w.heap.size+1<W.heap.size:=by have:=HSZ.out;omega
 have gw0:w.heap.size<W.heap.size:=by omega
 have HSC:Hid (SC W w.heap.size (w.heap.size+1) 0 (q S.name) (f A1 S.buses.length k1) (f A2 S.lines.length k2) (f A3 S.sources.length k3) (f A4 S.bays.length k4) (q x.r.name)):=Hd ⟨q0,q1,q2,q3,q4,q5⟩;have HROW:=Hd hrow;clear hrow
 go_region_held3 (fun w'=>w'.cell? ⟨w.heap.size,0,g⟩=some (q S.name)∧w'.cell? ⟨w.heap.size,1,g⟩=some (f A1 S.buses.length k1)∧w'.cell? ⟨w.heap.size,2,g⟩=some (f A2 S.lines.length k2)∧w'.cell? ⟨w.heap.size,3,g⟩=some (f A3 S.sources.length k3)∧w'.cell? ⟨w.heap.size,4,g⟩=some (f A4 S.bays.length k4)∧w'.cell? ⟨w.heap.size+1,0,g⟩=some (q x.r.name)) (first | go_keep | exact s2)
  (first
   | ((go_at_call 55;refine (HCW.out _ (zag hbx 1)).mono ?_;rintro e w2 ⟨A6,c6,rfl,-,-,ho2,hb2'⟩;have hb2:=za8 (a:=W) (B':=W.heap.size) hb2' rfl rfl rfl rfl (u _);have s2:=HSC.out.below hb2 gw0 gw1))
   | ((go_at_call 50;refine (zcw (xs:=S.names) ho2 (u _) hnl HZ.out).mono ?_;rintro e w3 ⟨m,t3,rfl,rfl⟩)))
 have hw2:=Below.then hbx hb2
 have HT2:=Hd t3;have g20:w.heap.size+1<w2.heap.size:=D gw1 hb2.size;have HSC2:=Hd (HSC.out.below hb2 gw0 gw1);have HROW2:=Hd (zal HROW.out hb2 gw1);clear q0 q1 q2 q3 q4 q5 s2 ho2 hb2' t3
 by_cases h0:0≤m
 · go_wp2
   go_ret
   exact ErrSays.no hw2 (by decide)
 go_wp2
 go_loopw [7] (OnR w2.heap.size w2 xs x.r.name i) (fun j _=>i-(intOf j).toNat)
 case atStart=>exact ⟨0,F _,rfl,fun _ _ h=>absurd h (Nat.not_lt_zero _),E _ _⟩
 case round =>
  obtain ⟨j,hj,rfl,hu,hbel⟩:=hrel;have HU:=Hd hu;have hw:=Below.then hw2 hbel
  have hs:=hbel.size;have sr:=HSC2.out.below hbel (by omega) g20;have hrw:=zal HROW2.out hbel g20;obtain ⟨p0,p1,p2,p3,p4,p5⟩:=sr;have g1:w.heap.size+1<wr.heap.size:=by omega
  clear hu
  by_cases hlt:j<i
  · obtain ⟨b1,o1,ds,y,rfl,hb1,hy,hl,hR,hat⟩:=(HR.out.mono RelayXC.mono (u _) (hw.mono hB)).at_ (k:=j) (by omega)
    have d0:wr.cell? ⟨b1,o1+j*53,g⟩=some (q y.r.name):=by simpa using hat 0 _ (zie hR)
    have HY:=Hd hy
    have hb1':b1<wr.heap.size:=by omega
    have hj0:(0:Int)≤(j:Int):=by omega
    have hji:(j:Int)<(i:Int):=by omega
    clear hy hR hat hl hrw
    cases hq:same y.r.name x.r.name
    all_goals
     have hq':=hq
     unfold same at hq'
     go_wp2
     go_quiet (fail)
     go_wp2
     first
      | (go_ret;exact ErrSays.no (zag hw _) (by decide))
      | (go_roundw
         case rel=>exact ⟨j+1,by omega,by go_num,zfF HU.out HY.out hq,zag hbel _⟩
         case measure=>simp [intOf];omega)
  · obtain rfl:i=j:=by omega
    obtain ⟨c49,c50,c51,c52,hcs⟩:=HX.out.cells
    have HCS:=Hd hcs
    clear hcs
    go_wp2_with fail
    refine (HPW.out _ hw x.r.kind x.n c49 c50 c51 c52 HCS.out).mono ?_
    rintro e w4 ⟨n4,t4,rfl,j4⟩
    have hw4:=Below.then hw j4
    have g4:w.heap.size+1<w4.heap.size:=D g1 j4.size
    have r4:=zal hrw j4 g1
    clear p0 p1 p2 p3 p4 p5 hrw
    cases hz:(n4 != 0)
    case true =>
     go_wp2
     go_ret
     exact ErrSays.no hw4 (by simpa using hz)
    have HT4:=Hd (t4 (by simpa using hz))
    clear t4
    go_wp2_with fail
    refine (zfP x.r.name x.r.kind x.n c49 c50 c51 c52 cs HCS.out _).mono ?_
    rintro e w5 ⟨b5,t5,rfl,j5⟩
    have hw5:=Below.then hw4 j5
    have g5:w.heap.size+1<w5.heap.size:=D g4 j5.size
    have r5:=zal r4 j5 g4
    clear r4
    cases b5
    case true =>
     go_wp2
     go_ret
     exact ErrSays.no hw5 (by decide)
    have HT5:=Hd (t5 rfl)
    clear t5
    go_wp2_with fail
    refine (zfR x.r.name x.r.kind x.n c49 c50 c51 c52 cs HCS.out _).mono ?_
    rintro e w6 ⟨b6,t6,rfl,j6⟩
    have hw6:=Below.then hw5 j6
    have g6:w.heap.size+1<w6.heap.size:=D g5 j6.size
    have r6:=zal r5 j6 g5
    clear r5
    cases b6
    case false =>
     go_wp2
     go_ret
     exact ErrSays.no hw6 (by decide)
    have HT6:=Hd (t6 rfl)
    clear t6
    go_wp2_with fail
    refine (zfQ x.r.name x.r.kind x.n c49 c50 c51 c52 cs HCS.out _).mono ?_
    rintro e w7 ⟨b7,t7,rfl,j7⟩
    have hw7:=Below.then hw6 j7
    have g7:w.heap.size+1<w7.heap.size:=D g6 j7.size
    have r7:=zal r6 j7 g6
    clear r6
    cases b7
    case true =>
     go_wp2
     go_ret
     exact ErrSays.no hw7 (by decide)
    have HT7:=Hd (t7 rfl)
    clear t7
    go_wp2_with fail
    refine (zi6 cs x.r B _ (by have:=hw7.size;omega) (RelayC.mono _ _ _ _ _ _ (u _) (hw7.mono hB) HX.out.base)).mono ?_
    rintro e w8 ⟨b8,t8,rfl,j8⟩
    have hw8:=Below.then hw7 j8
    have g8:w.heap.size+1<w8.heap.size:=D g7 j8.size
    have r8:=zal r7 j8 g7
    clear r7
    cases b8
    case true =>
     go_wp2
     go_ret
     exact ErrSays.no hw8 (by decide)
    have HT8:=Hd (t8 rfl)
    clear t8
    go_wp2_with fail
    refine (zhN cs x.r B _ (by have:=hw8.size;omega) (RelayC.mono _ _ _ _ _ _ (u _) (hw8.mono hB) HX.out.base) HT8.out.rules).mono ?_
    rintro e w9 ⟨n9,t9,rfl,j9⟩
    have hw9:=Below.then hw8 j9
    have r9:=zal r8 j9 g8
    clear r8
    cases hz9:(n9 != 0)
    case true =>
     go_wp2
     go_ret
     exact ErrSays.no hw9 (by simpa using hz9)
    have HT9:=Hd (t9 (by simpa using hz9))
    clear t9
    go_wp2_with fail
    refine (zhK cs x B _ (by have:=hw9.size;omega) (RelayXC.mono _ _ _ _ _ _ (u _) (hw9.mono hB) HX.out) HT8.out.sets (by have:=HT8.out.pubs;rw [HX.out.same,G] at this;exact this) HT8.out.subs).mono ?_
    rintro e w10 ⟨n10,t10,rfl,j10⟩
    have HT10:=Hd t10
    clear t10
    go_wp2
    go_ret
    exact ErrSays.of (Below.then hw9 j10) fun h0=>⟨HT1.out,HT2.out (by omega),zgX HU.out,HT4.out,HT5.out,HT6.out,HT7.out,HT8.out,HT9.out,HT10.out h0⟩
end Go.Proofs.YtjkimieapfbhbaaGreatDoor
namespace Go.Proofs.YtjkimieapfbhbaaGreatDoor
open Go.RowKit
attribute [local go_sem ↓] zav zaw
attribute [local go_sem] zay zaz
theorem zhY (A:Option Addr) (c B:Nat) (xs:List ByteArray) (w:World) (hr:Rws StrC 1 w B A xs.length xs) (hc:xs.length≤c) (hm:c≤maxLen) :
 Calls Tryz.prog 63 #[f A xs.length c] w (zaG (dupB xs) w):=
 (zkD A c B xs w hr hc hm).mono fun _ _ ⟨he,d,hw⟩=>⟨he,by subst hw;exact zag (E _ _) d⟩
def OnS (B:Nat) (W1:World) (outs:List ByteArray) (sets:List (ByteArray × List ByteArray)) (i:Value) (wr:World):Prop:=
 ∃ k:Nat,k≤sets.length∧i = v .i64 k∧zaN (setK outs sets) k∧Below B W1 wr
def OnG (B:Nat) (W1:World) (outs sigs:List ByteArray) (i:Value) (wr:World):Prop:=
 ∃ k:Nat,k≤sigs.length∧i = v .i64 k∧zaN (sigE outs sigs) k∧Below B W1 wr
theorem zmo (a0 a1 a2 a3 a4:Value) (A:Option Addr) (c B:Nat) (rs:List RelayM) (n:Nat) (hnl:n<rs.length) (w:World) (hB:B≤w.heap.size) (h:Conf w B a0 a1 a2 a3 a4 A c rs) (hn:zaH rs) :
 Calls Tryz.prog 34 #[.agg #[a0,a1,a2,a3,a4,f A rs.length c],v .i64 (n:Int)] w (zaU (oneK rs n) w):=by
 obtain ⟨i0,hi,hz0,hz1,hz2⟩:=info_parts zbn;have H:=Hd h;have hr:=h.rows;clear h;obtain ⟨b,o,cs,r,rfl,hbB,hx,hR,hbx,hrow,-⟩:=zcQ hr hnl;have HX:=Hd hx;have hb':b<w.heap.size:=by omega
 have hn0:(0:Int)≤(n:Int):=by omega
 have hn1:(n:Int)<(rs.length:Int):=by omega
 have hsm:=hn.2 r (I hx);have hru:=hsm.rules;have hsu:=hsm.subs;have hse:=hsm.sets;have hpu:=hsm.pubs;have HSO:=Hd (zcN hR);have HSI:=Hd (zdY hR);have hlO:r.outputs.length≤36:=by have:=zbS r.kind;simp only [RelayM.outputs,J,G];omega
 have hlI:r.inputs.length≤30:=by simp only [RelayM.inputs,G];omega
 have hbox:=zaa w (l #[a0,a1,a2,a3,a4,f (some ⟨b,o,g⟩) rs.length c] 30);have CB0:=CB.new w a0 a1 a2 a3 a4 (f (some ⟨b,o,g⟩) rs.length c) 30;have hrow1:=zal hrow (hbox.mono hB) hbB;have CB1:=CB0.below (zaa _ (l cs.toArray 60)) CB0.lt;have hrw1:=zcB (w.alloc (l #[a0,a1,a2,a3,a4,f (some ⟨b,o,g⟩) rs.length c] 30)) cs 60 (w.heap.size+1) 53 (by simp) hbx;have hw1:=hbox.alloc (by simp) (l cs.toArray 60);have HR:=Hd hR;clear hx hR hr hrow CB0;go_enter Tryz.func34,Tryz.ntmps34;go_wp2_with fail
 have hW1s:((w.alloc (l #[a0,a1,a2,a3,a4,f (some ⟨b,o,g⟩) rs.length c] 30)).alloc (l cs.toArray 60)).heap.size=w.heap.size+1+1:=by simp
 generalize ((w.alloc (l #[a0,a1,a2,a3,a4,f (some ⟨b,o,g⟩) rs.length c] 30)).alloc (l cs.toArray 60))=W1 at *;have hs1:w.heap.size≤W1.heap.size:=by omega
 have hg1:w.heap.size+1<W1.heap.size:=by omega
 have hg0:w.heap.size<W1.heap.size:=by omega
 clear hW1s hrow1 hbox;have C1:=fun W' (hb:Below W1.heap.size W1 W')=>zgO cs r B W' (by have:=hb.size;omega) (RelayC.mono _ _ _ _ _ _ (u _) ((hw1.trans (hb.mono hs1)).mono hB) HR.out) hru
 have C2:=fun W' (hb:Below W1.heap.size W1 W')=>zhI cs r B W' (by have:=hb.size;omega) (RelayC.mono _ _ _ _ _ _ (u _) ((hw1.trans (hb.mono hs1)).mono hB) HR.out) hsu
 have C3:∀ (W':World) (A':Option Addr) (c':Nat),W'.ownsRow W1.heap.size 9 1 (f A' (r.outputs.length+r.inputs.length) c') (r.outputs.length+r.inputs.length) (r.outputs.map .string++r.inputs.map .string)→(r.outputs.length+r.inputs.length)≤c'→c'≤maxLen→Calls Tryz.prog 63 #[f A' (r.outputs.length+r.inputs.length) c'] W' (zaG (dupB (r.outputs++r.inputs)) W'):=fun W' A' c' hown h1 h2=>by
  have hl:(r.outputs++r.inputs).length=r.outputs.length+r.inputs.length:=J
  have:=zhY A' c' W'.heap.size (r.outputs++r.inputs) W' (by rw [hl];exact Rws.of_ownStr (by rw [List.map_append];exact hown) (fun s hs=>by
   rcases List.mem_append.1 hs with h1 | h1
   · exact HSO.out s h1
   · exact HSI.out s h1)) (by omega) h2
  rw [hl] at this;exact this
 have hmx:r.outputs.length+r.inputs.length≤maxLen:=by unfold maxLen;omega
 have hbx2:(r.outputs.length+r.inputs.length)*16≤140737488355328:=by omega
 have hone:=zdG r.inputs;have HC1:=Hd C1;have HC2:=Hd C2;have HC3:=Hd C3;clear C1 C2 C3;go_wp2_with fail
 go_region_held3 (fun w'=>zbG w' (w.heap.size+1) 0 53=some cs) (go_keep)
  (first
   | ((go_at_call 64;refine (HC1.out _ (zag (E _ _) 1)).mono ?_;rintro e w3 ⟨A3,c3,rfl,-,-,ho3,hb3'⟩;have hb3:=za8 (a:=W1) (B':=W1.heap.size) hb3' rfl rfl rfl rfl (u _);have p3:=zal hrw1 hb3 hg1))
   | ((go_at_call 65;refine (HC2.out _ hb3).mono ?_;rintro e w4 ⟨A4,c4,rfl,-,-,ho4,hb4⟩;have hb24:=hb3.trans (hb4.mono hb3.size);have p4:=zal hrw1 hb24 hg1;have ho34:=zao (base':=W1.heap.size) (zab ho3 hb4 (u _)) (u _);have hsrc:=Src.of_own ho4))
   | ((have _t:=ho34;refine zcm _ _ 22 (by rfl) (by rfl) Tryz.underlying22 hi hz0 hz1 hz2 rfl Nat.one_pos (by rfl) ho34 hb24 (by rfl) hsrc hone hmx hbx2 hb24.size ?_;intro v5 w5 hown5 hbel5 hsz5;have p5:=zal hrw1 hbel5 hg1;obtain ⟨A5,c5,hv5,hl5,hm5⟩:=zac hown5;subst hv5))
   | ((go_at_call 63;refine (HC3.out _ _ _ hown5 hl5 hm5).mono ?_;rintro e w6 ⟨rfl,hb6⟩;have hb26:=hbel5.trans (hb6.mono hbel5.size);have p6:=zal hrw1 hb26 hg1)))
 have hw6:=hw1.trans (hb26.mono hs1);have hs6:=hw6.size;clear hb3' hb3 hb4 hb24 ho3 ho4 ho34 hsrc hown5 hbel5 hb6 p3 p4 p5 HC2 HC3 hone hmx hbx2
 cases hd:dupB (r.outputs++r.inputs) with
 | true =>
   have e0:oneK rs n=8:=by rw [zdR HX.out (by rw [zhF hd];decide),zhF hd]
   have HE:=Hd e0
   clear hd e0
   go_wp2
   go_ret
   exact ⟨zaP HE.out.symm,hw6⟩
 | false =>
 have HD:=Hd hd;clear hd;obtain ⟨c50,h50,A8,k8,e8,l8,m8,R8⟩:=HR.out.sets;obtain ⟨c51,h51,A9,k9,e9,l9,m9,R9⟩:=HR.out.pubs
 cases e8;cases e9
 have hbx6:=(zcL p6).2;have q50:w6.cell? ⟨w.heap.size+1,50,g⟩=some (f A8 r.sets.length k8):=by simpa using hbx6 50 _ h50
 have q51:w6.cell? ⟨w.heap.size+1,51,g⟩=some (f A9 r.pubs.length k9):=by simpa using hbx6 51 _ h51
 have hrow6:=Hd p6;have hg6:w.heap.size+1<w6.heap.size:=by have:=hb26.size;omega
 have R8':=Hd R8;have R9':=Hd R9;clear hbx6 h50 h51 R8 R9 p6;go_wp2_with fail
 go_loopw [6] (OnS w6.heap.size w6 r.outputs r.sets) (fun i _=>r.sets.length-(intOf i).toNat)
 case atStart=>exact ⟨0,F _,rfl,zaW _,E _ _⟩
 case round =>
  obtain ⟨k,hk,rfl,hall,hbel⟩:=hrel;have HA:=Hd hall;have hs8:=hbel.size;have hw8:=hw6.trans (hbel.mono hs6);have t50:wr.cell? ⟨w.heap.size+1,50,g⟩=some (f A8 r.sets.length k8):=(hbel.cell (p:=⟨w.heap.size+1,50,g⟩) hg6).trans q50;clear hall
  by_cases hlt:k<r.sets.length
  · obtain ⟨b8,o8,ds,x,rfl,hbb,hx,-,⟨cx,rfl,-,A5,k5,e5,l5,m5,R5⟩,hat⟩:=R8'.out.at_ hlt
    cases e5
    have HX2:=Hd hx
    have h30:=hsm.signals x (I hx)
    have HR5:=Hd R5
    have hb8:b8<w.heap.size:=by omega
    have q1:w.cell? ⟨b8,o8+k*2+1,g⟩=some (f A5 x.2.length k5):=hat 1 _ rfl
    have hk0:(0:Int)≤(k:Int):=by omega
    have hk1:(k:Int)<(r.sets.length:Int):=by omega
    clear hx hat R5
    go_wp2_with fail
    go_loopw [7] (OnG w6.heap.size w6 r.outputs x.2) (fun i _=>x.2.length-(intOf i).toNat)
    case atStart=>exact ⟨0,F _,rfl,zaW _,hbel⟩
    case round =>
     clear t50
     obtain ⟨j,hj,rfl,hall,hbi⟩:=hrel
     have HZ:=Hd hall
     have hw9:=hw6.trans (hbi.mono hs6)
     have hs9:=hbi.size
     have t50:wr.cell? ⟨w.heap.size+1,50,g⟩=some (f (some ⟨b8,o8,g⟩) r.sets.length k8):=(hbi.cell (p:=⟨w.heap.size+1,50,g⟩) hg6).trans q50
     have t1:wr.cell? ⟨b8,o8+k*2+1,g⟩=some (f A5 x.2.length k5):=(hw9.cell (p:=⟨b8,o8+k*2+1,g⟩) hb8).trans q1
     have hrow9:=zal hrow6.out hbi hg6
     clear hall
     by_cases hjl:j<x.2.length
     · obtain ⟨b2,o2,sg,rfl,hb2,hsg,hss,hcs⟩:=(HR5.out.mono StrC.mono (u _) (hw9.mono hB)).strAt hjl
       have HSG:=Hd hsg
       clear hsg
       go_wp2_with fail
       refine (HC1.out _ (hb26.trans (hbi.mono hb26.size))).mono ?_
       rintro e w10 ⟨A10,c10,rfl,-,-,ho10,hb10⟩
       have hm10:=zdE r.outputs r.outputs.length sg
       rw [List.take_length] at hm10
       go_wp2_with fail
       refine (zcd A10 c10 w10.heap.size r.outputs sg w10 (Rws.of_ownStr ho10 HSO.out) (by omega)).mono ?_
       rintro e w11 ⟨rfl,rfl⟩
       generalize idx (fun r=>same r sg) r.outputs=ix at *
       have hbi10:=hbi.trans (hb10.mono hs9)
       have hw10:=hw6.trans (hbi10.mono hs6)
       have HI:=Hd hm10
       have u50:w10.cell? ⟨w.heap.size+1,50,g⟩=some (f (some ⟨b8,o8,g⟩) r.sets.length k8):=(hbi10.cell (p:=⟨w.heap.size+1,50,g⟩) hg6).trans q50
       have u1:w10.cell? ⟨b8,o8+k*2+1,g⟩=some (f (some ⟨b2,o2,g⟩) x.2.length k5):=(hw10.cell (p:=⟨b8,o8+k*2+1,g⟩) hb8).trans q1
       clear hm10 ho10 hb10 t50 t1 hcs hrow9
       cases hk1s:seen r.outputs r.outputs.length sg with
       | false =>
         have h0:ix<0:=by have:=HI.out;rw [hk1s] at this;simpa using this.symm
         have e0:ownE r=9:=zfJ HD.out HA.out hlt (zej HX2.out HZ.out hjl (zlV HSG.out hk1s) (by decide)) (by decide)
         have e1:oneK rs n=9:=by rw [zdR HX.out (by rw [e0];decide),e0]
         have HE:=Hd e1
         clear e0 e1 hk1s
         go_wp2
         go_ret
         exact ⟨zaP HE.out.symm,hw10⟩
       | true =>
         have h0:0≤ix:=by have:=HI.out;rw [hk1s] at this;simpa using this.symm
         have HK:=Hd hk1s
         have hl:(x.2.take j).length=j:=by rw [List.length_take];omega
         have C:=zcd (some ⟨b2,o2,g⟩) k5 B (x.2.take j) sg w10 (by rw [hl];exact zik (HR5.out.mono StrC.mono (u _) (hw10.mono hB)) j hj) (by omega)
         rw [hl] at C
         have hsi:=zdE x.2 j sg
         generalize idx (fun r=>same r sg) (x.2.take j)=iv at *
         have HC:=Hd C
         have HI2:=Hd hsi
         have hj0:(0:Int)≤(j:Int):=by omega
         have hjc:(j:Int)≤(k5:Int):=by omega
         clear hk1s C hl hsi
         cases hk2s:seen x.2 j sg with
         | true =>
           have h1:0≤iv:=by have:=HI2.out;rw [hk2s] at this;simpa using this.symm
           have e0:ownE r=8:=zfJ HD.out HA.out hlt (zej HX2.out HZ.out hjl (zlU HSG.out HK.out hk2s) (by decide)) (by decide)
           have e1:oneK rs n=8:=by rw [zdR HX.out (by rw [e0];decide),e0]
           have HE:=Hd e1
           clear e0 e1 hk2s
           go_wp2_with (go_at_call 50;refine HC.out.mono ?_;rintro e w12 ⟨rfl,rfl⟩)
           go_ret
           exact ⟨zaP HE.out.symm,hw10⟩
         | false =>
           have h1:iv<0:=by have:=HI2.out;rw [hk2s] at this;simpa using this.symm
           have HK2:=Hd hk2s
           clear hk2s
           go_wp2_with (go_at_call 50;refine HC.out.mono ?_;rintro e w12 ⟨rfl,rfl⟩)
           go_roundw
           case rel=>exact ⟨j+1,by omega,by go_num,zaV HZ.out (zlT HSG.out HK.out HK2.out),hbi10⟩
           case measure=>simp [intOf];omega
     · obtain rfl:j=x.2.length:=by omega
       go_wp2
       go_roundw
       case rel=>exact ⟨k+1,by omega,by go_num,zaV HA.out (zg0 HX2.out HZ.out),hbi⟩
       case measure=>simp [intOf];omega
  · obtain rfl:k=r.sets.length:=by omega
    obtain ⟨W8,rfl⟩:∃ W8:World,W8=wr:=⟨_,rfl⟩
    have q51':W8.cell? ⟨w.heap.size+1,51,g⟩=some (f A9 r.pubs.length k9):=(hbel.cell (p:=⟨w.heap.size+1,51,g⟩) hg6).trans q51
    have hrow8:=zal hrow6.out hbel hg6
    have hg8:w.heap.size+1<W8.heap.size:=by omega
    have hs8':=hw8.size
    have CB8:=CB1.below (hb26.trans (hbel.mono hb26.size)) hg0
    obtain ⟨c52,h52,A7,k7,e7,l7,m7,R7⟩:=HR.out.subs
    cases e7
    have q52:W8.cell? ⟨w.heap.size+1,52,g⟩=some (f A7 r.subs.length k7):=by simpa using (zcL hrow8).2 52 _ h52
    have HRow8:=Hd hrow8
    clear q50 q51 hlt hk hrow8 h52 R7 HC1
    go_wp2_with fail
    clear t50
    go_loopw [9] (PbR W8.heap.size W8 r) (fun i _=>r.pubs.length-(intOf i).toNat)
    case atStart=>exact ⟨0,F _,rfl,zaW _,E _ _⟩
    case round =>
     obtain ⟨k,hk,rfl,hall,hbel8⟩:=hrel
     have HZ:=Hd hall
     have hw9:=hw8.trans (hbel8.mono hs8')
     have hs9:=hbel8.size
     have t51:wr.cell? ⟨w.heap.size+1,51,g⟩=some (f A9 r.pubs.length k9):=(hbel8.cell (p:=⟨w.heap.size+1,51,g⟩) hg8).trans q51'
     clear hall
     by_cases hlt:k<r.pubs.length
     · obtain ⟨b9,o9,ds,x,rfl,hbb,hx,-,⟨u1,u2,rfl,hxl⟩,hat⟩:=(R9'.out.mono PubC.mono (u _) (hw9.mono hB)).at_ hlt
       have q0:wr.cell? ⟨b9,o9+k*3,g⟩=some (q x):=hat 0 _ rfl
       have HX2:=Hd hx
       have hrow9:=zal HRow8.out hbel8 hg8
       have hg9:w.heap.size+1<wr.heap.size:=by omega
       have hb9:b9<wr.heap.size:=by omega
       have hk0:(0:Int)≤(k:Int):=by omega
       have hk1:(k:Int)<(r.pubs.length:Int):=by omega
       have C:=fun W' (hb:Below wr.heap.size wr W')=>zij cs r B x W' (by have:=hb.size;omega) (RelayC.mono _ _ _ _ _ _ (u _) ((hw9.trans (hb.mono (by omega))).mono hB) HR.out) (by omega)
       have HC:=Hd C
       clear C hx hat
       go_wp2_with fail
       go_region_held3 (fun w'=>zbG w' (w.heap.size+1) 0 53=some cs∧w'.cell? ⟨w.heap.size+1,51,g⟩=some (f (some ⟨b9,o9,g⟩) r.pubs.length k9)∧w'.cell? ⟨b9,o9+k*3,g⟩=some (q x)) (go_keep)
        (first
         | ((go_at_call 66;refine (HC.out _ (zag (E _ _) 1)).mono ?_;rintro e w10 ⟨rfl,hb10'⟩;have hb10:=za8 (a:=wr) (B':=wr.heap.size) hb10' rfl rfl rfl rfl (u _);have p1:=zal hrow9 hb10 hg9;have p2:=(hb10.cell (p:=⟨w.heap.size+1,51,g⟩) hg9).trans t51;have p3:=(hb10.cell (p:=⟨b9,o9+k*3,g⟩) hb9).trans q0)))
       have hbel10:=hbel8.trans (hb10.mono hs9)
       clear HC hb10' hb10 p1 p2 p3 q0 t51
       rcases zba (fun d:ByteArray × List ByteArray=>same d.1 x) r.sets with ⟨hix,-⟩ | ⟨si,sd,hix,-,-,-⟩
       · have hpk:pubK r k=9:=by simp [pubK,HX2.out,hix]
         have e0:ownE r=9:=zka HD.out HA.out HZ.out hlt hpk (by decide)
         have e1:oneK rs n=9:=by rw [zdR HX.out (by rw [e0];decide),e0]
         have HE:=Hd e1
         rw [hix]
         clear hpk hix e0 e1
         go_wp2
         go_ret
         exact ⟨zaP HE.out.symm,hw8.trans (hbel10.mono hs8')⟩
       · have hpk:pubK r k=0:=by simp [pubK,HX2.out,hix]
         have HP:=Hd hpk
         rw [hix]
         clear hpk hix
         go_wp2
         go_roundw
         case rel=>exact ⟨k+1,by omega,by go_num,zaV HZ.out HP.out,hbel10⟩
         case measure=>simp [intOf];omega
     · obtain rfl:k=r.pubs.length:=by omega
       have e0:ownE r=0:=zlP HD.out HA.out HZ.out
       have HE:=Hd e0
       have t52:wr.cell? ⟨w.heap.size+1,52,g⟩=some (f A7 r.subs.length k7):=(hbel8.cell (p:=⟨w.heap.size+1,52,g⟩) hg8).trans q52
       clear e0 hlt hk
       go_wp2_with fail
       clear t51
       go_loopw [10] (ChI W8.heap.size W8 rs n r.subs.length) (fun i _=>r.subs.length-(intOf i).toNat)
       case atStart=>exact ⟨0,F _,rfl,zaW _,hbel8⟩
       case round =>
        clear t52 hbel8 hw9 hs9
        obtain ⟨m,hm,rfl,hall,hbel1⟩:=hrel
        have HZ2:=Hd hall
        have hw9:=hw8.trans (hbel1.mono hs8')
        have hs9:=hbel1.size
        have t52:wr.cell? ⟨w.heap.size+1,52,g⟩=some (f A7 r.subs.length k7):=(hbel1.cell (p:=⟨w.heap.size+1,52,g⟩) hg8).trans q52
        obtain ⟨hlt1,y0,y1,y2,y3,y4,y5⟩:=CB8.below hbel1 (by omega)
        clear hall
        by_cases hmt:m<r.subs.length
        · have C:=zkg a0 a1 a2 a3 a4 (some ⟨b,o,g⟩) c B rs (n:Int) (m:Int) wr (by omega) (H.out.mono (u _) (hw9.mono hB)) hn
          have HC:=Hd C
          clear C
          go_wp2_with fail
          refine HC.out.mono ?_
          rintro e w12 ⟨rfl,hb12⟩
          have hsk:subK rs n m=(zbi rs (n:Int) (m:Int)).2.2.2:=rfl
          generalize zbi rs (n:Int) (m:Int)=p at *
          have HSK:=Hd hsk
          have hbel2:=hbel1.trans (hb12.mono hs9)
          have hbel3:=hbel2.alloc hbel2.size (l #[v .i64 p.1,v .i64 p.2.1,v .i64 p.2.2.1] 160)
          clear hsk HC hb12 y0 y1 y2 y3 y4 y5 t52
          cases hz:(p.2.2.2 != 0) with
          | true =>
            have hnz:subK rs n m≠0:=by rw [HSK.out];simpa using hz
            have e1:oneK rs n=p.2.2.2:=by rw [zhC HX.out HE.out HZ2.out hmt hnz,HSK.out]
            have HE2:=Hd e1
            clear hnz e1
            go_wp2
            go_ret
            exact ⟨zaP HE2.out.symm,hw8.trans (hbel3.mono hs8')⟩
          | false =>
            have hnz:subK rs n m=0:=by rw [HSK.out];simpa using hz
            have HN2:=Hd hnz
            clear hnz
            go_wp2
            go_roundw
            case rel=>exact ⟨m+1,by omega,by go_num,zaV HZ2.out HN2.out,hbel3⟩
            case measure=>simp [intOf];omega
        · obtain rfl:m=r.subs.length:=by omega
          go_wp2
          go_ret
          exact ⟨zaP (zlN HX.out HE.out HZ2.out).symm,hw9⟩
end Go.Proofs.YtjkimieapfbhbaaGreatDoor
