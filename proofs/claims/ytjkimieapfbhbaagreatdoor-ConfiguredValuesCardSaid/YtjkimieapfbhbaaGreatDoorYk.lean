/-
 The statements of a relay's numbers.
-/
import Derived.Test.YtjkimieapfbhbaaGreatDoorYj
import Derived.Test.YtjkimieapfbhbaaGreatDoorRTb
import Derived.Deep.DeepCutAuto
import Derived.Deep.CutRange
import Derived.Laws.EntriesVeiled
import Derived.Deep.MidRow
set_option maxRecDepth 100000
set_option maxHeartbeats 64000000
open Go.Value renaming int → f, slice → m, bool → F, string → H, agg → S
open Go.IntKind renaming i64 → l
open Option renaming none → r
open List renaming setIfInBounds_toArray → y, set_cons_zero → B, set_cons_succ → C, not_mem_nil → L, mem_cons → M, foldl_cons → jb, foldl_nil → jc
open Go.Act renaming put → D
open Go.Obj renaming cells → E
open Nat renaming le_refl → G, lt_succ_self → J, lt_of_lt_of_le → U, lt_of_lt_of_eq → V
open Go.Proofs.YtjkimieapfbhbaaGreatDoor.KB renaming setAt → I, of_below → Z, alloc → ja
open Bool renaming noConfusion → O
open Go.Proofs.YtjkimieapfbhbaaGreatDoor.AllReadyT renaming cons → P, nil → Q
open Go.Proofs.Tryz renaming prog → R
open Go.World renaming size_alloc → Y, cell?_of_block → jd, frozen?_of_block → je
namespace Go.Proofs.YtjkimieapfbhbaaGreatDoor
open Go.RowKit
structure NmlS (g:Nat) (W0 wr:World) (v:Value) (its:List (List Value)):Prop where
 row:Row wr g 173 [v]
 gr:Grows 1 (fun b=>b=g) (g+1) wr v its
 bel:Below g W0 wr
def NmlR (N g:Nat) (W0 wr:World):Prop:=∃ v its,NmlS g W0 wr v its∧its.length≤N
theorem NmlR.mk {N g:Nat} {W0 wr:World} {v:Value} {its:List (List Value)} (h:NmlS g W0 wr v its) (hl:its.length≤N):NmlR N g W0 wr:=⟨v,its,h,hl⟩
theorem NmlS.below {g:Nat} {W0 wr w':World} {v:Value} {its:List (List Value)} (h:NmlS g W0 wr v its) (hb:Below wr.heap.size wr w'):NmlS g W0 w' v its:=
 ⟨h.row.below hb h.row.lt,h.gr.below hb (G _),h.bel.trans (hb.mono (Nat.le_of_lt h.row.lt))⟩
theorem NmlS.put {g:Nat} {W0 wr w':World} {v:Value} {its:List (List Value)} (h:NmlS g W0 wr v its) (hp:PutN 1 (fun b=>b=g) (g+1) g v its wr w'):∃ v' its',NmlS g W0 w' v' its'∧its'.length≤its.length+1:=by
 obtain ⟨v',its',h1,h2,h3,h4,h5⟩:=hp;refine ⟨v',its',⟨h1,h2,h.bel.trans (h4.below (Nat.le_of_lt h.row.lt) fun b q => ?_)⟩,h3.2⟩
 rcases q with q | q
 · omega
 · have:=(h.gr.own.lt b q).1
   omega
theorem Grows.free {d:Nat} {X:Nat→Prop} {base base':Nat} {w:World} {v:Value} {its:List (List Value)} (h:Grows d X base w v its) (hb:base'≤base):Grows d (fun _=>False) base' w v its:=
 ⟨zao h.own hb,fun c hc=>ItC.mono d _ _ _ _ _ _ (fun _ q=>⟨Nat.le_trans hb q.1,q.2.1,q.2.2.1,fun z=>z⟩) (KeepOn.refl _ _) (h.each c hc),fun _ _ z=>z,fun _ z=>z.elim,Nat.le_trans hb h.lo⟩
theorem zcY (g:Nat) (W0:World) (v:Value) (its:List (List Value)) (used:Bool) (word:ByteArray) (ns:List Int) (n:Nat) (cells:Array Value) (wr:World) (T:Tab wr) (h:NmlS g W0 wr v its) (hn:its.length≤200) (hwd:Wt word)
 (hc:cells=(ns.map fun n=>f l n).toArray) (hl:ns.length=n) (hl2:n≤20) (h64:∀ n∈ns,I64 n) :
 Calls R 154 #[F used,H word,m (some ⟨wr.heap.size,0,r⟩) n n,.pointer (some ⟨g,0,r⟩)] (wr.alloc (E cells 3)) (fun e w'=>e = .returned (.tuple #[])∧∃ v' its',NmlS g W0 w' v' its'∧its'.length≤its.length+1):=by
 subst hc;subst hl;have h2:=h.below (zaa wr (E (ns.map fun n=>f l n).toArray 3));refine (zjs 0 (fun b=>b=g) (fun b=>b=wr.heap.size) (g+1) g v its used word _ _ ns _ (T.below (zaa _ _) T.2) rfl h2.row h2.gr hn hwd (zlL ns (Row.new _ _ rfl) h64) hl2 (fun b hb=>by subst hb;simp)).mono ?_
 rintro e w' ⟨rfl,hp⟩
 exact ⟨rfl,h2.put hp⟩
structure El64 (e:ElM):Prop where
 a:I64 e.a
 b:I64 e.b
structure Num64 (n:NumM):Prop where
 defi:El64 n.defi
 inv:El64 n.inv
 fail:El64 n.fail
 under:El64 n.under
 over:El64 n.over
 zone:∀ k,k<3→I64 (n.zone k).x∧I64 (n.zone k).rt∧I64 (n.zone k).lf∧I64 (n.zone k).dl
 loop:I64 n.mn∧I64 n.kre∧I64 n.kim
 tele:I64 n.wait∧I64 n.guard
 shots:I64 n.shots∧I64 n.dead∧I64 n.reclaim
 diff:I64 n.diff∧I64 n.num∧I64 n.den∧I64 n.harm
theorem el64 {e:ElM} {lo hi:Int} (h:e.Fits lo hi) (hl:0≤lo∧hi≤1000):El64 e:=by
 rcases h with ⟨-,-,h1,h2⟩ | ⟨-,h1,h2⟩
 · exact ⟨zaX (by omega),zaX (by omega)⟩
 · exact ⟨zaX (by omega),zaX (by omega)⟩
theorem zkM {z:ZoneM} (h:z.Fits):I64 z.x∧I64 z.rt∧I64 z.lf∧I64 z.dl:=by
 rcases h with ⟨-,-,-,h1,h2,h3,h4⟩ | ⟨-,h1,h2,h3,h4⟩
 · exact ⟨zaX (by omega),zaX (by omega),zaX (by omega),zaX (by omega)⟩
 · exact ⟨zaX (by omega),zaX (by omega),zaX (by omega),zaX (by omega)⟩
theorem NumbersF.n64 {n:NumM} (h:NumbersF n):Num64 n:=by
 refine ⟨el64 h.defi (by omega),el64 h.inv (by omega),el64 h.fail (by omega),el64 h.under (by omega),el64 h.over (by omega),fun k hk => ?_,?_,?_,?_,?_⟩
 · have:k=0∨k=1∨k=2:=by omega
   rcases this with rfl | rfl | rfl
   · exact zkM h.zones.z0
   · exact zkM h.zones.z1
   · exact zkM h.zones.z2
 · rcases h.zones.any with ⟨-,-,-,h1,h2,h3⟩ | ⟨-,h1,h2,h3⟩
   · exact ⟨zaX (by omega),zaX (by omega),zaX (by omega)⟩
   · exact ⟨zaX (by omega),zaX (by omega),zaX (by omega)⟩
 · have h1 : -1000000≤n.wait∧n.wait≤1000000:=by rcases h.wait with h | h <;> omega
   have h2 : -1000000≤n.guard∧n.guard≤1000000:=by rcases h.guard with h | h <;> omega
   exact ⟨zaX h1,zaX h2⟩
 · rcases h.shots with ⟨h1,h2,h3⟩ | ⟨h1,h2,h3⟩
   · exact ⟨zaX (by omega),zaX (by omega),zaX (by omega)⟩
   · exact ⟨zaX (by omega),zaX (by omega),zaX (by omega)⟩
 · rcases h.diff with ⟨h1,h2,h3,h4⟩ | ⟨h1,h2,h3,h4⟩
   · exact ⟨zaX (by omega),zaX (by omega),zaX (by omega),zaX (by omega)⟩
   · exact ⟨zaX (by omega),zaX (by omega),zaX (by omega),zaX (by omega)⟩
def zhh (n:NumM):List Value:=[F n.z0.on,F n.z0.fw,f l n.z0.x,f l n.z0.rt,f l n.z0.lf,f l n.z0.dl,F n.z1.on,F n.z1.fw,f l n.z1.x,f l n.z1.rt,f l n.z1.lf,f l n.z1.dl,F n.z2.on,F n.z2.fw,f l n.z2.x,f l n.z2.rt,f l n.z2.lf,f l n.z2.dl]
def EnR (g:Nat) (W0:World) (i:Value) (wr:World):Prop:=∃ k:Nat,k≤3∧i = f l (k:Int)∧NmlR k g W0 wr
theorem zd5 (nm:ByteArray) (k:Int) (n:NumM) (c49 c50 c51 c52:Value) (cs:List Value) (hcs:cs=zbd nm k n c49 c50 c51 c52) (h:NumbersF n) (w:World) (T:Tab w):Calls R 125 #[.agg cs.toArray] w (RetK 1 12 w):=by
 have q21:=rq w hcs 21 rfl;have q22:=rq w hcs 22 rfl;have q23:=rq w hcs 23 rfl;have q24:=rq w hcs 24 rfl;have q25:=rq w hcs 25 rfl;have q26:=rq w hcs 26 rfl;have q27:=rq w hcs 27 rfl;have q28:=rq w hcs 28 rfl;have q29:=rq w hcs 29 rfl;have q30:=rq w hcs 30 rfl;have q31:=rq w hcs 31 rfl;have q32:=rq w hcs 32 rfl;have q33:=rq w hcs 33 rfl;have q34:=rq w hcs 34 rfl;have q35:=rq w hcs 35 rfl;have q36:=rq w hcs 36 rfl;have q37:=rq w hcs 37 rfl;have q38:=rq w hcs 38 rfl;have q39:=rq w hcs 39 rfl;have q40:=rq w hcs 40 rfl;have q41:=rq w hcs 41 rfl;have q42:=rq w hcs 42 rfl;have q43:=rq w hcs 43 rfl;have q44:=rq w hcs 44 rfl;have q45:=rq w hcs 45 rfl;have q46:=rq w hcs 46 rfl;have q47:=rq w hcs 47 rfl;have q48:=rq w hcs 48 rfl;have HN6:=Hd h.n64;have hb:=zaa w (E cs.toArray 60);obtain ⟨i0,hi,hz0,hz1,hz2⟩:=info_parts zcK;have HTI:=Hd (And.intro hi (And.intro hz0 (And.intro hz1 hz2)));clear hi hz0 hz1 hz2;have ix0:∀ (w:World) (a0 a1 a2 a3 a4 a5 a6 a7 a8 a9 a10 a11 a12 a13 a14 a15 a16 a17:Value),(Instr.index 50 (S #[a0,a1,a2,a3,a4,a5,a6,a7,a8,a9,a10,a11,a12,a13,a14,a15,a16,a17]) (f l 0)).run R w = .ok (S #[a0,a1,a2,a3,a4,a5]) w:=fun _ _ _ _ _ _ _ _ _ _ _ _ _ _ _ _ _ _ _  => by kernel_rfl
 have ix1:∀ (w:World) (a0 a1 a2 a3 a4 a5 a6 a7 a8 a9 a10 a11 a12 a13 a14 a15 a16 a17:Value),(Instr.index 50 (S #[a0,a1,a2,a3,a4,a5,a6,a7,a8,a9,a10,a11,a12,a13,a14,a15,a16,a17]) (f l 1)).run R w = .ok (S #[a6,a7,a8,a9,a10,a11]) w:=fun _ _ _ _ _ _ _ _ _ _ _ _ _ _ _ _ _ _ _  => by kernel_rfl
 have ix2:∀ (w:World) (a0 a1 a2 a3 a4 a5 a6 a7 a8 a9 a10 a11 a12 a13 a14 a15 a16 a17:Value),(Instr.index 50 (S #[a0,a1,a2,a3,a4,a5,a6,a7,a8,a9,a10,a11,a12,a13,a14,a15,a16,a17]) (f l 2)).run R w = .ok (S #[a12,a13,a14,a15,a16,a17]) w:=fun _ _ _ _ _ _ _ _ _ _ _ _ _ _ _ _ _ _ _  => by kernel_rfl
 have hr18:(w.alloc (E cs.toArray 60)).rangeAt w.heap.size 3 (zhh n):=fun j v hv=>zaI (by
  have hj:j<18:=(List.getElem?_eq_some_iff.1 hv).1;rw [hcs,show zbd nm k n c49 c50 c51 c52=[H nm,f l k,f l n.bay]++(zhh n++(zbd nm k n c49 c50 c51 c52).drop 21) from rfl,List.getElem?_append_right (by simp),List.getElem?_append_left (by simp;exact hj)];simpa using hv)
 have hg0:(w.alloc (E cs.toArray 60)).heap.size=w.heap.size+1:=by simp
 have hT0:=T.below hb T.2;clear hcs h;go_enter Tryz.func125,Tryz.ntmps125;go_upto_region 1 with fail
 generalize w.alloc (E cs.toArray 60)=W0 at *;have HB:=Hd hb;have HT:=Hd hT0;have hTl : 0 < w.heap.size:=T.2;clear T hb hT0;have HQ21:=Hd q21;have HQ22:=Hd q22;have HQ23:=Hd q23;have HQ24:=Hd q24;have HQ25:=Hd q25;have HQ26:=Hd q26;have HQ27:=Hd q27;have HQ28:=Hd q28;have HQ29:=Hd q29;have HQ30:=Hd q30;have HQ31:=Hd q31;have HQ32:=Hd q32;have HQ33:=Hd q33;have HQ34:=Hd q34;have HQ35:=Hd q35;have HQ36:=Hd q36;have HQ37:=Hd q37;have HQ38:=Hd q38;have HQ39:=Hd q39;have HQ40:=Hd q40;have HQ41:=Hd q41;have HQ42:=Hd q42;have HQ43:=Hd q43;have HQ44:=Hd q44;have HQ45:=Hd q45;have HQ46:=Hd q46;have HQ47:=Hd q47;have HQ48:=Hd q48;clear q21 q22 q23 q24 q25 q26 q27 q28 q29 q30 q31 q32 q33 q34 q35 q36 q37 q38 q39 q40 q41 q42 q43 q44 q45 q46 q47 q48
 have hH0:NmlS (w.heap.size+1) W0 (W0.alloc (E #[m r 0 0] 173)) (m r 0 0) []:=
  ⟨Row.new _ [m r 0 0] hg0.symm,Grows.nil (fun b hb=>by subst hb;simp;omega) (by simp;omega),(zaa _ _).mono (by omega)⟩
 go_upto_region 3 with fail
 have z0:(W0.alloc (E #[m r 0 0] 173)).heap.size=W0.heap.size+1:=by simp
 have HZ:=Hd (zaa W0 (E #[m r 0 0] 173));have hrw:w.heap.size<W0.heap.size:=by omega
 have HR18:=Hd (zbr hr18 HZ.out hrw);clear hr18;generalize W0.alloc (E #[m r 0 0] 173)=W at *
 have jx:∀ k:Nat,k<3→∀ w:World,(Instr.index 50 (.agg (zhh n).toArray) (f l (k:Int))).run R w = .ok (S #[F (n.zone k).on,F (n.zone k).fw,f l (n.zone k).x,f l (n.zone k).rt,f l (n.zone k).lf,f l (n.zone k).dl]) w:=by
  intro k hk w;have:k=0∨k=1∨k=2:=by omega
  rcases this with rfl | rfl | rfl
  · exact ix0 w _ _ _ _ _ _ _ _ _ _ _ _ _ _ _ _ _ _
  · exact ix1 w _ _ _ _ _ _ _ _ _ _ _ _ _ _ _ _ _ _
  · exact ix2 w _ _ _ _ _ _ _ _ _ _ _ _ _ _ _ _ _ _
 have HJ:=Hd jx;clear jx ix0 ix1 ix2;have hzl:(zhh n).length=18:=rfl;generalize zhh n=zcs at *;have HZL:=Hd hzl;clear hzl;go_wp2_with (refine wpList_load_mid rfl 50 _ rfl w.heap.size 3 rfl zcs _ HR18.out Tryz.underlying50 rfl (by rw [HZL.out];kernel_rfl) ?_)
 go_loopw [12] (EnR (w.heap.size+1) W0) (fun i _=>3-(intOf i).toNat)
 case atStart=>exact ⟨0,Nat.zero_le _,rfl,_,_,hH0,G _⟩
 case round =>
  obtain ⟨k,hk,rfl,v,its,hs,hlen⟩:=hrel;have HSS0:=Hd hs;have HLE:=Hd hlen;have hil:its.length≤3:=by omega
  have hgl:=hs.row.lt;clear hs hlen
  by_cases hlt:k<3
  · have hlt':(k:Int)<3:=by omega
    have jk:=HJ.out k hlt
    have hz64:=Hd (HN6.out.zone k hlt)
    generalize n.zone k=z at *
    have hk1:(1:Int)+(k:Int)=(k:Int)+1:=by omega
    have h4:=HSS0.out.below (zaa wr (E #[F z.on,F z.fw,f l z.x,f l z.rt,f l z.lf,f l z.dl] 49))
    have R6:Row (wr.alloc (E #[F z.on,F z.fw,f l z.x,f l z.rt,f l z.lf,f l z.dl] 49)) wr.heap.size 49 [F z.on,F z.fw,f l z.x,f l z.rt,f l z.lf,f l z.dl]:=Row.new _ [F z.on,F z.fw,f l z.x,f l z.rt,f l z.lf,f l z.dl] rfl
    go_upto_region 6 with fail
    generalize wr.alloc (E #[F z.on,F z.fw,f l z.x,f l z.rt,f l z.lf,f l z.dl] 49)=w4 at *
    clear jk
    generalize z.on=zon at *
    generalize z.fw=zfw at *
    generalize z.x=zx at *
    generalize z.rt=zrt at *
    generalize z.lf=zlf at *
    generalize z.dl=zdl at *
    clear z
    obtain ⟨f0,f1⟩:=kr2 R6
    have H4:=Hd h4
    have HR6:=Hd R6
    clear h4 R6
    cases zon with
    | false =>
      go_wp2
      go_roundw
      case rel=>exact ⟨k+1,by omega,by go_num,_,_,H4.out,by have:=HLE.out;omega⟩
      case measure=>simp [intOf];omega
    | true =>
      go_upto_if 20 with fail
      go_cut [7] from 19 to 20 (fun dv wx=>∃ s,dv = H s∧Wt s∧wx=w4)
      case first =>
       cases zfw with
       | false =>
         go_wp2
         go_meet
         exact ⟨_,rfl,Wt.lit rfl,rfl⟩
       | true =>
         go_wp2
         go_meet
         exact ⟨_,rfl,Wt.lit rfl,rfl⟩
      case rest =>
       obtain ⟨dir,rfl,hdir,rfl⟩:=hcut
       clear f0 f1
       have hgw:w.heap.size+1<wc.heap.size:=H4.out.row.lt
       have hzb:=HR6.out.lt
       have hTc:=HT.out.below H4.out.bel (by omega)
       go_wp2_with fail
       refine (zcg ((k:Int)+1) (zaX (by omega)) wc hTc).mono ?_
       rintro e wa ⟨sI,rfl,hwI,hbI⟩
       go_wp2_with fail
       refine (zc5 [⟨#[122,111,110,101]⟩,sI,dir] 3 rfl (by decide) (by intro s hs;simp only [M,L,or_false] at hs;rcases hs with rfl | rfl | rfl;exact Wt.lit rfl;exact hwI;exact hdir) _ _ (Row.new (w:=wa) (t := 9) wa.heap.size [.string ⟨#[122,111,110,101]⟩,.string sI,.string dir] rfl)).mono ?_
       rintro e wb ⟨A1,c1,ws,rfl,hlen,hcc,ho1,hw1,hb1⟩
       have hsI:=hbI.size
       have hs1:=U (V (J _) (Y wa (E #[H ⟨#[122,111,110,101]⟩,H sI,H dir] 9)).symm) hb1.size
       have hcb:Below wc.heap.size wc wb:=hbI.trans (((zaa wa (E #[H ⟨#[122,111,110,101]⟩,H sI,H dir] 9)).mono hsI).trans (hb1.mono (by simp;omega)))
       have HA1:=Hd (show ∀ b,(m A1 ws.length c1).ownBlock=some b→wc.heap.size≤b∧b<wb.heap.size from fun b q=>by have:=ho1.lt b q;simp at this;omega)
       go_upto_region 11 with fail
       obtain ⟨AV,cV,rfl,-,-⟩:=zac H4.out.gr.own
       refine zau (fun w'=>KB (fun b=>b=w.heap.size+1∨(m AV its.length cV).ownBlock=some b) wc w') (fun w'=>Below wc.heap.size wc w'∧Row w' wb.heap.size 211 [f l 0,m A1 ws.length c1,F false,m r 0 0]) 15 (by kernel_rfl) ?_
       obtain ⟨wx,hwd0⟩:∃ x,x=(wb.alloc (E #[f l 0,m A1 ws.length c1,F false,m r 0 0] 211)).drew:=⟨_,rfl⟩
       have hCC:Below wc.heap.size wc wx∧Row wx wb.heap.size 211 [f l 0,m A1 ws.length c1,F false,m r 0 0]:=by
        rw [hwd0]
        exact ⟨(hcb.alloc hcb.size _).drew,(Row.new (w:=wb) (t := 211) wb.heap.size [f l 0,m A1 ws.length c1,F false,m r 0 0] rfl).drew⟩
       have HO1:=Hd (show wx.ownsRow wc.heap.size 217 2 (m A1 ws.length c1) ws.length (ws.flatMap wdC) from by
        rw [hwd0]
        exact zab ((zao ho1 (by simp;omega)).alloc _) ((Below.refl _ _).drew) (G _))
       have hS:KB (fun b=>b=w.heap.size+1∨(m AV its.length cV).ownBlock=some b) wc wx:=Z hCC.1
       rw [← hwd0]
       clear hwd0
       have hC:=hCC.1
       have HRI:=Hd hCC.2
       have hz:=HRI.out.lt
       have HWW:=Hd hw1
       have HLN:=Hd hlen
       have HG:=Hd H4.out.gr
       have HR:=Hd H4.out.row
       have y0:=Row.cell (k:=0) (v := m AV its.length cV) HR.out rfl
       have gl:=hgw
       have HNG:=Hd (show (m AV its.length cV).ownBlock≠some (w.heap.size+1) from fun q=>HG.out.nx _ q rfl)
       have HFL:=Hd (zbT HG.out.each)
       have hi1:(its.length:Int)<(its.length:Int)+1:=by omega
       have hi0:(0:Int)≤(its.length:Int):=by omega
       have hnz:¬ (wr.heap.size=w.heap.size+1∨(m AV its.length cV).ownBlock=some wr.heap.size):=fun q=>by
        rcases q with q | q
        · omega
        · have:=(HSS0.out.gr.own.lt _ q).2
          omega
       obtain ⟨-,-,fz2,fz3,fz4,fz5⟩:=kr6 HR6.out
       have HDG:=Hd (show ∀ (κ:Nat) (W':World),Below wc.heap.size wc W'→Row W' κ 3 [f l zx,f l zrt,f l zlf,f l zdl]→Calls R 155 #[m (some ⟨κ,0,r⟩) 4 4] W' (zeP 4 W') from fun κ W' hW hR=>zhn [zx,zrt,zlf,zdl] 4 rfl (by decide) (by intro n hn;simp only [M,L,or_false] at hn;rcases hn with rfl | rfl | rfl | rfl;exact hz64.out.1;exact hz64.out.2.1;exact hz64.out.2.2.1;exact hz64.out.2.2.2) W' κ (hTc.below hW (by omega)) hR)
       clear ho1 hw1 hlen hcb hbI hb1 hwI hdir hTc
       refine zbO (i:=0) (v:=?_) rfl (by kernel_rfl) (by kernel_rfl) (by kernel_rfl) (by rfl) (by kernel_rfl) (by kernel_rfl) (fun _ _ _ h=>h) hS hCC (Or.inl ⟨by rfl,?yld⟩) ?_
       case yld=>(intro wq hSw;have e:=(hSw.1.cell (p:=⟨w.heap.size+1,0,r⟩) gl).trans y0;go_simp <;> with_reducible rfl)
       try simp only [D,y,B,C]
       refine zbO (i:=1) (v:=?_) rfl (by kernel_rfl) (by kernel_rfl) (by kernel_rfl) (by rfl) (by kernel_rfl) (by kernel_rfl) (fun _ _ _ h=>h) hS hCC (Or.inl ⟨by rfl,?yld⟩) ?_
       case yld=>(intro wq hSw;obtain ⟨e0,e1,e2,e3⟩:=kr4 hSw.2;go_simp <;> with_reducible rfl)
       try simp only [D,y,B,C]
       refine zam 2 rfl hS (fun _=>hCC) ?_
       try simp only [D,y,B,C]
       refine zaS 3 ?_ rfl hS (fun _=>hCC) ?yld ?_
       case yld=>(intro wq hSw;have e:=(hSw.cell (o:=2) hzb hnz).trans fz2;go_simp <;> with_reducible rfl)
       try simp only [D,y,B,C]
       refine zam 4 rfl hS (fun _=>hCC) ?_
       try simp only [D,y,B,C]
       refine zaS 5 ?_ rfl hS (fun _=>hCC) ?yld ?_
       case yld=>(intro wq hSw;have e:=(hSw.cell (o:=3) hzb hnz).trans fz3;go_simp <;> with_reducible rfl)
       try simp only [D,y,B,C]
       refine zam 6 rfl hS (fun _=>hCC) ?_
       try simp only [D,y,B,C]
       refine zaS 7 ?_ rfl hS (fun _=>hCC) ?yld ?_
       case yld=>(intro wq hSw;have e:=(hSw.cell (o:=4) hzb hnz).trans fz4;go_simp <;> with_reducible rfl)
       try simp only [D,y,B,C]
       refine zam 8 rfl hS (fun _=>hCC) ?_
       try simp only [D,y,B,C]
       refine zaS 9 ?_ rfl hS (fun _=>hCC) ?yld ?_
       case yld=>(intro wq hSw;have e:=(hSw.cell (o:=5) hzb hnz).trans fz5;go_simp <;> with_reducible rfl)
       try simp only [D,y,B,C]
       refine zam 13 rfl hS (fun _=>hCC) ?_
       try simp only [D,y,B,C]
       iterate 4 (all_goals (focus (
        (first
         | (refine zad (rs:=[10,14]) (by decide +kernel) (by simp) ?_)
         | (refine zad (rs:=[11,14]) (by decide +kernel) (by simp) ?_)
         | (refine zad (rs:=[12,14]) (by decide +kernel) (by simp) ?_)
         | (refine zad (rs:=[14]) (by decide +kernel) (by simp) ?_)
         | (refine zad (rs:=[12]) (by decide +kernel) (by simp) ?_)
         | (refine zad (rs:=[11]) (by decide +kernel) (by simp) ?_)
         | (refine zad (rs:=[10]) (by decide +kernel) (by simp) ?_))
        repeat' (first | exact Q | (refine P rfl (fun K hK => ?_) ?_))
        all_goals (focus (
         go_simp
         first
         | (go_at_call 155
            (with_reducible refine (HDG.out _ _ hC HRN.out).mono ?_)
            rintro e wy ⟨A2,c2',ss,rfl,hss,hc2,hw2,ho2,hb2⟩
            have hC1:=hC.trans (hb2.mono hC.size)
            go_wp2_with fail
            refine hK.out _ _ (Z hC1) (fun _=>⟨hC1,HRI.out.below hb2 HRI.out.lt⟩) ?_
            clear hS hC hCC HRI
            intro hS hCC
            replace hCC:=hCC rfl
            have hC:=hCC.1
            have HRI:=Hd hCC.2
            clear hK K
            try simp only [D,y,B,C]
            try replace HRN:=Hd (HRN.out.below hb2 HRN.out.lt)
            try replace HRZ:=Hd (HRZ.out.below hb2 HRZ.out.lt)
            try replace HO1:=Hd (zab HO1.out hb2 (G _))
            try replace HO2:=Hd (zab HO2.out hb2 (G _))
            try replace HO3:=Hd (zab HO3.out hb2 (G _))
            have HO2:=Hd ho2
            have HSS:=Hd hss
            have HW2:=Hd hw2
            have hz:=hb2.size
            have HNE:=Hd (show ∀ b,(m A1 ws.length c1).ownBlock=some b→b<wx.heap.size from fun b q=>by have:=HA1.out b q;omega)
            clear ho2 hb2 hss hw2 hC1
            generalize hwx:wy=wx at *
            clear hwx)
         | (go_at_call 123
            (with_reducible refine (zfA (zao (base':=wc.heap.size) HO1.out (by omega)) hC.size HWW.out (by have:=HLN.out;omega) HO2.out HSS.out HW2.out (by omega) HNE.out).mono ?_)
            rintro e wy ⟨⟨A3,c3,ws3,rfl,hlen3,hcc3,ho3,hw3,hb3⟩,hkb⟩
            have hC1:=hC.trans hb3
            go_wp2_with fail
            refine hK.out _ _ (Z hC1) (fun _=>⟨hC1,(hkb.block _ HRI.out.lt (fun q=>by have:=HA1.out _ q;omega)).trans HRI.out⟩) ?_
            clear hS hC hCC HRI
            intro hS hCC
            replace hCC:=hCC rfl
            have hC:=hCC.1
            have HRI:=Hd hCC.2
            clear hK K
            try simp only [D,y,B,C]
            try replace HRZ:=Hd (show Row wy _ _ _ from (hkb.block _ HRZ.out.lt (fun q=>by have:=HA1.out _ q;omega)).trans HRZ.out)
            have HO3:=Hd ho3
            have HW3:=Hd hw3
            have HLN3:=Hd hlen3
            have hz:=hkb.size
            clear ho3 hw3 hb3 hlen3 hkb hC1 HO1 HO2
            generalize hwx:wy=wx at *
            clear hwx)
         | (with_reducible refine hK.out _ _ (ja hS (E #[f l zx,f l zrt,f l zlf,f l zdl] 3)) (fun _=>⟨hC.alloc hC.size _,HRI.out.below (zaa _ _) HRI.out.lt⟩) ?_
            clear hS hC hCC HRI
            intro hS hCC
            replace hCC:=hCC rfl
            have hC:=hCC.1
            have HRI:=Hd hCC.2
            clear hK K
            try simp only [D,y,B,C]
            have hbb:=zaa wx (E #[f l zx,f l zrt,f l zlf,f l zdl] 3)
            try replace HRN:=Hd (HRN.out.below hbb HRN.out.lt)
            try replace HRZ:=Hd (HRZ.out.below hbb HRZ.out.lt)
            try replace HO1:=Hd (zab HO1.out hbb (G _))
            try replace HO2:=Hd (zab HO2.out hbb (G _))
            try replace HO3:=Hd (zab HO3.out hbb (G _))
            have HRN:=Hd (Row.new (w:=wx) (t := 3) wx.heap.size [f l zx,f l zrt,f l zlf,f l zdl] rfl)
            have hz:=V (J _) (Y wx (E #[f l zx,f l zrt,f l zlf,f l zdl] 3)).symm
            clear hbb
            generalize wx.alloc (E #[f l zx,f l zrt,f l zlf,f l zdl] 3)=wx at *)
         | (with_reducible refine hK.out _ _ (ja hS (E #[f l 0,m r 0 0,F false,m r 0 0] 211)) (fun _=>⟨hC.alloc hC.size _,HRI.out.below (zaa _ _) HRI.out.lt⟩) ?_
            clear hS hC hCC HRI
            intro hS hCC
            replace hCC:=hCC rfl
            have hC:=hCC.1
            have HRI:=Hd hCC.2
            clear hK K
            try simp only [D,y,B,C]
            have hbb:=zaa wx (E #[f l 0,m r 0 0,F false,m r 0 0] 211)
            try replace HRN:=Hd (HRN.out.below hbb HRN.out.lt)
            try replace HRZ:=Hd (HRZ.out.below hbb HRZ.out.lt)
            try replace HO1:=Hd (zab HO1.out hbb (G _))
            try replace HO2:=Hd (zab HO2.out hbb (G _))
            try replace HO3:=Hd (zab HO3.out hbb (G _))
            have HRZ:=Hd (Row.new (w:=wx) (t := 211) wx.heap.size [f l 0,m r 0 0,F false,m r 0 0] rfl)
            have hz:=V (J _) (Y wx (E #[f l 0,m r 0 0,F false,m r 0 0] 211)).symm
            clear hbb
            generalize wx.alloc (E #[f l 0,m r 0 0,F false,m r 0 0] 211)=wx at *)
        ))
       )))
       all_goals (focus (
        refine zad (rs:=[15]) (by kernel_rfl) (by simp) ?_
        refine P (i:=15) rfl (fun K hK => ?_) ?_
        · skip
          have HC1:=Hd hC
          refine zai (w:=wx) _ _ 173 rfl rfl Tryz.underlying173 HTI.out.1 HTI.out.2.1 HTI.out.2.2.1 HTI.out.2.2.2 rfl (by decide) rfl (zab HG.out.own hC (G _)) rfl (zdW HRZ.out rfl) (by simp [Value.oneCell']) (by unfold maxLen;omega) (by omega) (by have:=hC.size;omega) ?_
          intro v2 wg1 hown2 hg2 hv2
          obtain ⟨b2,c2,hv2e,hb2,hb2l⟩:=hown2.form (by omega)
          subst hv2e
          refine hK.out _ _ (KB.grow hS hg2 fun b q => .inl (.inr q)) (fun q=>O (show true=false from q)) (fun hS hCC => ?_)
          clear hK K
          try simp only [D,y,B,C]
          have HOWN2:=Hd hown2
          have HG2:=Hd hg2
          have HV2:=Hd hv2
          have gx:=(jd (a:=⟨(w.heap.size+1),0,r⟩) (hg2.block (w.heap.size+1) (U gl HC1.out.size) (fun q=>HNG.out q.symm))).trans ((HC1.out.cell (p:=⟨(w.heap.size+1),0,r⟩) gl).trans y0)
          have gf:=(je (a:=⟨(w.heap.size+1),0,r⟩) (hg2.block (w.heap.size+1) (U gl HC1.out.size) (fun q=>HNG.out q.symm))).trans ((HC1.out.frozen (p:=⟨(w.heap.size+1),0,r⟩) gl).trans (Row.free HR.out 0))
          have e0:=za4 hown2 HFL.out 0 (u := f l 0) rfl
          have e1:=za4 hown2 HFL.out 1 (u := m r 0 0) rfl
          have e2:=za4 hown2 HFL.out 2 (u := F false) rfl
          have e3:=za4 hown2 HFL.out 3 (u := m r 0 0) rfl
          rw [Nat.add_zero] at e0
          have ef0:=hown2.frozenAt (its.length*4)
          have ef1:=hown2.frozenAt (its.length*4+1)
          have ef2:=hown2.frozenAt (its.length*4+2)
          have ef3:=hown2.frozenAt (its.length*4+3)
          have hgb:(w.heap.size+1)≠b2:=zcz hv2 rfl HNG.out (U gl HC1.out.size)
          have hbg:=hgb.symm
          have hbX:(b2=(w.heap.size+1)∨(m AV its.length cV).ownBlock=some b2)∨wc.heap.size≤b2:=by
           rcases hv2 with q | q
           · exact .inl (.inr q.symm)
           · have:=HC1.out.size
             have q':b2=wx.heap.size:=by cases q;rfl
             exact .inr (by omega)
          clear hown2 hg2 hv2
          refine zam 16 rfl hS (fun q=>O (show true=false from q)) ?_
          try simp only [D,y,B,C]
          refine zad (rs:=[17,18]) (by kernel_rfl) (by simp) ?_
          refine P (i:=17) rfl (fun K hK => ?_) ?_
          · skip
            go_simp
            refine hK.out _ _ (I (I (I (I hS hbX _ _) hbX _ _) hbX _ _) hbX _ _) (fun q=>O (show true=false from q)) (fun hS hCC => ?_)
            clear hK K
            try simp only [D,y,B,C]
            refine zad (rs:=[18]) (by kernel_rfl) (by simp) ?_
            refine P (i:=18) rfl (fun K hK => ?_) ?_
            · skip
              go_simp
              refine hK.out _ _ (I hS (.inl (.inl rfl)) _ _) (fun q=>O (show true=false from q)) (fun hS hCC => ?_)
              clear hK K
              try simp only [D,y,B,C]
              refine zaR (by kernel_rfl) ?_ _
              have HFIN:=zdQ (X:=fun b=>b=w.heap.size+1) rfl HR.out HG.out HC1.out HO3.out (by have:=HLN3.out;have:=HLN.out;omega) HW3.out HG2.out HV2.out HOWN2.out
              have HFIN2:=HFIN
              unfold zcn at HFIN2
              rw [← zb3 (w.heap.size+1) b2 0 _ hgb _ _] at HFIN2
              simp only [zcn,Go.Proofs.YtjkimieapfbhbaaGreatDoor.sets,jb,jc] at HFIN HFIN2
              have HN1:=Hd (H4.out.put HFIN)
              have HN2:=Hd (H4.out.put HFIN2)
              clear HFIN HFIN2 gx gf e0 e1 e2 e3 ef0 ef1 ef2 ef3 y0
              go_wp2
              go_roundw
              case rel =>
               refine ⟨k+1,by omega,by go_num,?_⟩
               first
                | (obtain ⟨v',its',q1,q2⟩:=HN1.out;with_reducible exact NmlR.mk q1 (by have:=HLE.out;omega))
                | (obtain ⟨v',its',q1,q2⟩:=HN2.out;with_reducible exact NmlR.mk q1 (by have:=HLE.out;omega))
              case measure=>simp [intOf];omega
            exact Q
          refine P (i:=18) rfl (fun K hK => ?_) ?_
          · skip
            go_simp
            refine hK.out _ _ (I hS (.inl (.inl rfl)) _ _) (fun q=>O (show true=false from q)) (fun hS hCC => ?_)
            clear hK K
            try simp only [D,y,B,C]
            refine zad (rs:=[17]) (by kernel_rfl) (by simp) ?_
            refine P (i:=17) rfl (fun K hK => ?_) ?_
            · skip
              go_simp
              refine hK.out _ _ (I (I (I (I hS hbX _ _) hbX _ _) hbX _ _) hbX _ _) (fun q=>O (show true=false from q)) (fun hS hCC => ?_)
              clear hK K
              try simp only [D,y,B,C]
              refine zaR (by kernel_rfl) ?_ _
              have HFIN:=zdQ (X:=fun b=>b=w.heap.size+1) rfl HR.out HG.out HC1.out HO3.out (by have:=HLN3.out;have:=HLN.out;omega) HW3.out HG2.out HV2.out HOWN2.out
              have HFIN2:=HFIN
              unfold zcn at HFIN2
              rw [← zb3 (w.heap.size+1) b2 0 _ hgb _ _] at HFIN2
              simp only [zcn,Go.Proofs.YtjkimieapfbhbaaGreatDoor.sets,jb,jc] at HFIN HFIN2
              have HN1:=Hd (H4.out.put HFIN)
              have HN2:=Hd (H4.out.put HFIN2)
              clear HFIN HFIN2 gx gf e0 e1 e2 e3 ef0 ef1 ef2 ef3 y0
              go_wp2
              go_roundw
              case rel =>
               refine ⟨k+1,by omega,by go_num,?_⟩
               first
                | (obtain ⟨v',its',q1,q2⟩:=HN1.out;with_reducible exact NmlR.mk q1 (by have:=HLE.out;omega))
                | (obtain ⟨v',its',q1,q2⟩:=HN2.out;with_reducible exact NmlR.mk q1 (by have:=HLE.out;omega))
              case measure=>simp [intOf];omega
            exact Q
          exact Q
        exact Q
       ))
  · obtain rfl:k=3:=by omega
    clear hlt
    have HSS0L:=Hd hil
    obtain ⟨c21,c22,c23⟩:=kb3 HSS0.out.bel (J _) ⟨HQ21.out,HQ22.out,HQ23.out⟩
    have hl1:=HSS0L.out
    go_wp2_with fail
    refine (zcY (w.heap.size+1) W0 v its (n.mn != 0) ⟨#[108,111,111,112]⟩ [n.mn,n.kre,n.kim] 3 #[.int .i64 n.mn,.int .i64 n.kre,.int .i64 n.kim] wr (HT.out.below HSS0.out.bel (by omega)) HSS0.out (by omega) (Wt.lit rfl) rfl rfl (by decide) (by intro z hz;simp only [M,L,or_false] at hz;rcases hz with rfl | rfl | rfl;exact HN6.out.loop.1;exact HN6.out.loop.2.1;exact HN6.out.loop.2.2)).mono ?_
    rintro e w1 ⟨rfl,v1,its1,k1,n1⟩
    have H1:=Hd k1
    have H1L:=Hd (show its1.length≤4 by omega)
    clear k1 n1 hl1 c21 c22 c23
    have c24:=(H1.out.bel.cell (p:=⟨w.heap.size,24,r⟩) (J _)).trans HQ24.out
    go_upto_if 59 with fail
    go_cut [] from 57 to 76 (fun wx=>NmlR 5 (w.heap.size+1) W0 wx)
    case first =>
     by_cases hsc:n.scheme≠0
     · have e1:(n.scheme != 0)=true:=by rw [bne_iff_ne];exact hsc
       go_upto_region 15 with fail
       clear c24 e1
       obtain ⟨AV,cV,hvv,-,-⟩:=zac H1.out.gr.own
       subst hvv
       have hgw:w.heap.size+1<w1.heap.size:=H1.out.row.lt
       refine zau (fun w'=>KB (fun b=>b=w.heap.size+1∨(m AV its1.length cV).ownBlock=some b) w1 w') (fun w'=>Below w1.heap.size w1 w') 15 (by kernel_rfl) ?_
       obtain ⟨wx,hwd0⟩:∃ x,x=w1.drew:=⟨_,rfl⟩
       have hS:KB (fun b=>b=w.heap.size+1∨(m AV its1.length cV).ownBlock=some b) w1 wx:=by rw [hwd0];exact (KB.refl _ _).drew
       have hC:Below w1.heap.size w1 wx:=by rw [hwd0];exact (Below.refl _ _).drew
       rw [← hwd0]
       clear hwd0
       have hz:=hC.size
       have hCC:=hC
       have hTc:=HT.out.below H1.out.bel (by omega)
       have hl1:=H1L.out
       have HG:=Hd H1.out.gr
       have HR:=Hd H1.out.row
       have y0:=Row.cell (k:=0) (v := m AV its1.length cV) HR.out rfl
       have gl:=hgw
       have HNG:=Hd (show (m AV its1.length cV).ownBlock≠some (w.heap.size+1) from fun q=>HG.out.nx _ q rfl)
       have HFL:=Hd (zbT HG.out.each)
       have hi1:(its1.length:Int)<(its1.length:Int)+1:=by omega
       have hi0:(0:Int)≤(its1.length:Int):=by omega
       have hrb:w.heap.size<w1.heap.size:=by omega
       have hnr:¬ (w.heap.size=w.heap.size+1∨(m AV its1.length cV).ownBlock=some w.heap.size):=fun q=>by
        rcases q with q | q
        · omega
        · have:=(HG.out.own.lt _ q).1
          omega
       obtain ⟨fr24,fr25,fr26⟩:=kb3 H1.out.bel (J _) ⟨HQ24.out,HQ25.out,HQ26.out⟩
       have HDG:=Hd (show ∀ (κ:Nat) (W':World),Below w1.heap.size w1 W'→Row W' κ 3 [f l n.wait,f l n.guard]→Calls R 155 #[m (some ⟨κ,0,r⟩) 2 2] W' (zeP 2 W') from fun κ W' hW hR=>zhn [n.wait,n.guard] 2 rfl (by decide) (by intro z hz;simp only [M,L,or_false] at hz;rcases hz with rfl | rfl;exact HN6.out.tele.1;exact HN6.out.tele.2) W' κ (hTc.below hW (by omega)) hR)
       clear hTc
       refine zbO (i:=0) (v:=?_) rfl (by kernel_rfl) (by kernel_rfl) (by kernel_rfl) (by rfl) (by kernel_rfl) (by kernel_rfl) (fun _ _ _ h=>h) hS hCC (Or.inl ⟨by rfl,?yld⟩) ?_
       case yld=>(intro wq hSw;have e:=(hSw.cell (p:=⟨w.heap.size+1,0,r⟩) gl).trans y0;go_simp <;> with_reducible rfl)
       try simp only [D,y,B,C]
       refine zam 1 rfl hS (fun _=>hCC) ?_
       try simp only [D,y,B,C]
       refine zaS 2 ?_ rfl hS (fun _=>hCC) ?yld ?_
       case yld=>(intro wq hSw;have e:=(hSw.cell (o:=24) hrb hnr).trans fr24;go_simp <;> with_reducible rfl)
       try simp only [D,y,B,C]
       refine zam 6 rfl hS (fun _=>hCC) ?_
       try simp only [D,y,B,C]
       refine zaS 7 ?_ rfl hS (fun _=>hCC) ?yld ?_
       case yld=>(intro wq hSw;have e:=(hSw.cell (o:=25) hrb hnr).trans fr25;go_simp <;> with_reducible rfl)
       try simp only [D,y,B,C]
       refine zam 8 rfl hS (fun _=>hCC) ?_
       try simp only [D,y,B,C]
       refine zaS 9 ?_ rfl hS (fun _=>hCC) ?yld ?_
       case yld=>(intro wq hSw;have e:=(hSw.cell (o:=26) hrb hnr).trans fr26;go_simp <;> with_reducible rfl)
       try simp only [D,y,B,C]
       refine zam 13 rfl hS (fun _=>hCC) ?_
       try simp only [D,y,B,C]
       iterate 7 (all_goals (focus (
        (first
         | (refine zad (rs:=[3,10,14]) (by decide +kernel) (by simp) ?_)
         | (refine zad (rs:=[4,10,14]) (by decide +kernel) (by simp) ?_)
         | (refine zad (rs:=[5,10,14]) (by decide +kernel) (by simp) ?_)
         | (refine zad (rs:=[10,14]) (by decide +kernel) (by simp) ?_)
         | (refine zad (rs:=[11,14]) (by decide +kernel) (by simp) ?_)
         | (refine zad (rs:=[12,14]) (by decide +kernel) (by simp) ?_)
         | (refine zad (rs:=[14]) (by decide +kernel) (by simp) ?_)
         | (refine zad (rs:=[12]) (by decide +kernel) (by simp) ?_)
         | (refine zad (rs:=[11]) (by decide +kernel) (by simp) ?_)
         | (refine zad (rs:=[10]) (by decide +kernel) (by simp) ?_)
         | (refine zad (rs:=[5,14]) (by decide +kernel) (by simp) ?_)
         | (refine zad (rs:=[5]) (by decide +kernel) (by simp) ?_)
         | (refine zad (rs:=[5,10]) (by decide +kernel) (by simp) ?_)
         | (refine zad (rs:=[4,14]) (by decide +kernel) (by simp) ?_)
         | (refine zad (rs:=[4]) (by decide +kernel) (by simp) ?_)
         | (refine zad (rs:=[4,10]) (by decide +kernel) (by simp) ?_)
         | (refine zad (rs:=[3,14]) (by decide +kernel) (by simp) ?_)
         | (refine zad (rs:=[3]) (by decide +kernel) (by simp) ?_)
         | (refine zad (rs:=[3,10]) (by decide +kernel) (by simp) ?_))
        repeat' (first | exact Q | (refine P rfl (fun K hK => ?_) ?_))
        all_goals (focus (
         go_simp
         first
         | (go_at_call 156
            (with_reducible refine (zfV _ _).mono ?_)
            rintro e w9 ⟨⟨sw,rfl,hsw⟩,rfl⟩
            go_wp2_with fail
            refine hK.out _ _ (hS) (fun _=>hCC) ?_
            clear hS hC hCC
            intro hS hCC
            replace hCC:=hCC rfl
            have hC:=hCC
            clear hK K
            try simp only [D,y,B,C]
            have HSW:=Hd hsw
            clear hsw
            have HST:=Hd (zc5 [⟨#[115,99,104,101,109,101]⟩,sw] 2 rfl (by decide) (by intro s hs;simp only [M,L,or_false] at hs;rcases hs with rfl | rfl;exact Wt.lit rfl;exact HSW.out)))
         | (go_at_call 122
            (with_reducible refine (HST.out _ _ HRL.out).mono ?_)
            rintro e wy ⟨A1,c1,ws,rfl,hlen,hcc,ho1,hw1,hb1⟩
            have hC1:=hC.trans (hb1.mono hC.size)
            go_wp2_with fail
            refine hK.out _ _ (Z hC1) (fun _=>hC1) ?_
            clear hS hC hCC
            intro hS hCC
            replace hCC:=hCC rfl
            have hC:=hCC
            clear hK K
            try simp only [D,y,B,C]
            try replace HRL:=Hd (HRL.out.below hb1 HRL.out.lt)
            try replace HRN:=Hd (HRN.out.below hb1 HRN.out.lt)
            try replace HRZ:=Hd (HRZ.out.below hb1 HRZ.out.lt)
            try replace HO1:=Hd (zab HO1.out hb1 (G _))
            try replace HO2:=Hd (zab HO2.out hb1 (G _))
            try replace HO3:=Hd (zab HO3.out hb1 (G _))
            have HO1:=Hd ho1
            have HWW:=Hd hw1
            have HLN:=Hd hlen
            have hz:=hb1.size
            have hzc:=hC1.size
            have HA1:=Hd (show ∀ b,(m A1 ws.length c1).ownBlock=some b→wx.heap.size≤b∧b<wy.heap.size from fun b q=>ho1.lt b q)
            clear ho1 hw1 hb1 hlen hC1
            generalize hwx:wy=wx at *
            clear hwx)
         | (go_at_call 155
            (with_reducible refine (HDG.out _ _ hC HRN.out).mono ?_)
            rintro e wy ⟨A2,c2',ss,rfl,hss,hc2,hw2,ho2,hb2⟩
            have hC1:=hC.trans (hb2.mono hC.size)
            go_wp2_with fail
            refine hK.out _ _ (Z hC1) (fun _=>hC1) ?_
            clear hS hC hCC
            intro hS hCC
            replace hCC:=hCC rfl
            have hC:=hCC
            clear hK K
            try simp only [D,y,B,C]
            try replace HRL:=Hd (HRL.out.below hb2 HRL.out.lt)
            try replace HRN:=Hd (HRN.out.below hb2 HRN.out.lt)
            try replace HRZ:=Hd (HRZ.out.below hb2 HRZ.out.lt)
            try replace HO1:=Hd (zab HO1.out hb2 (G _))
            try replace HO2:=Hd (zab HO2.out hb2 (G _))
            try replace HO3:=Hd (zab HO3.out hb2 (G _))
            have HO2:=Hd ho2
            have HSS:=Hd hss
            have HW2:=Hd hw2
            have hz:=hb2.size
            have HNE:=Hd (show ∀ b,(m A1 ws.length c1).ownBlock=some b→b<wx.heap.size from fun b q=>by have:=HA1.out b q;omega)
            clear ho2 hb2 hss hw2 hC1
            generalize hwx:wy=wx at *
            clear hwx)
         | (go_at_call 123
            (with_reducible refine (zfA (zao (base':=w1.heap.size) HO1.out (by omega)) hC.size HWW.out (by have:=HLN.out;omega) HO2.out HSS.out HW2.out (by omega) HNE.out).mono ?_)
            rintro e wy ⟨⟨A3,c3,ws3,rfl,hlen3,hcc3,ho3,hw3,hb3⟩,hkb⟩
            have hC1:=hC.trans hb3
            go_wp2_with fail
            refine hK.out _ _ (Z hC1) (fun _=>hC1) ?_
            clear hS hC hCC
            intro hS hCC
            replace hCC:=hCC rfl
            have hC:=hCC
            clear hK K
            try simp only [D,y,B,C]
            try replace HRZ:=Hd (show Row wy _ _ _ from (hkb.block _ HRZ.out.lt (fun q=>by have:=HA1.out _ q;omega)).trans HRZ.out)
            have HO3:=Hd ho3
            have HW3:=Hd hw3
            have HLN3:=Hd hlen3
            have hz:=hkb.size
            clear ho3 hw3 hb3 hlen3 hkb hC1 HO1 HO2
            generalize hwx:wy=wx at *
            clear hwx)
         | (with_reducible refine hK.out _ _ (ja hS (E #[H ⟨#[115,99,104,101,109,101]⟩,H sw] 9)) (fun _=>hC.alloc hC.size _) ?_
            clear hS hC hCC
            intro hS hCC
            replace hCC:=hCC rfl
            have hC:=hCC
            clear hK K
            try simp only [D,y,B,C]
            have hbb:=zaa wx (E #[H ⟨#[115,99,104,101,109,101]⟩,H sw] 9)
            try replace HRL:=Hd (HRL.out.below hbb HRL.out.lt)
            try replace HRN:=Hd (HRN.out.below hbb HRN.out.lt)
            try replace HRZ:=Hd (HRZ.out.below hbb HRZ.out.lt)
            try replace HO1:=Hd (zab HO1.out hbb (G _))
            try replace HO2:=Hd (zab HO2.out hbb (G _))
            try replace HO3:=Hd (zab HO3.out hbb (G _))
            have HRL:=Hd (Row.new (w:=wx) (t := 9) wx.heap.size [H ⟨#[115,99,104,101,109,101]⟩,H sw] rfl)
            have hz:=V (J _) (Y wx (E #[H ⟨#[115,99,104,101,109,101]⟩,H sw] 9)).symm
            clear hbb
            generalize wx.alloc (E #[H ⟨#[115,99,104,101,109,101]⟩,H sw] 9)=wx at *)
         | (with_reducible refine hK.out _ _ (ja hS (E #[f l n.wait,f l n.guard] 3)) (fun _=>hC.alloc hC.size _) ?_
            clear hS hC hCC
            intro hS hCC
            replace hCC:=hCC rfl
            have hC:=hCC
            clear hK K
            try simp only [D,y,B,C]
            have hbb:=zaa wx (E #[f l n.wait,f l n.guard] 3)
            try replace HRL:=Hd (HRL.out.below hbb HRL.out.lt)
            try replace HRN:=Hd (HRN.out.below hbb HRN.out.lt)
            try replace HRZ:=Hd (HRZ.out.below hbb HRZ.out.lt)
            try replace HO1:=Hd (zab HO1.out hbb (G _))
            try replace HO2:=Hd (zab HO2.out hbb (G _))
            try replace HO3:=Hd (zab HO3.out hbb (G _))
            have HRN:=Hd (Row.new (w:=wx) (t := 3) wx.heap.size [f l n.wait,f l n.guard] rfl)
            have hz:=V (J _) (Y wx (E #[f l n.wait,f l n.guard] 3)).symm
            clear hbb
            generalize wx.alloc (E #[f l n.wait,f l n.guard] 3)=wx at *)
         | (with_reducible refine hK.out _ _ (ja hS (E #[f l 0,m r 0 0,F false,m r 0 0] 211)) (fun _=>hC.alloc hC.size _) ?_
            clear hS hC hCC
            intro hS hCC
            replace hCC:=hCC rfl
            have hC:=hCC
            clear hK K
            try simp only [D,y,B,C]
            have hbb:=zaa wx (E #[f l 0,m r 0 0,F false,m r 0 0] 211)
            try replace HRL:=Hd (HRL.out.below hbb HRL.out.lt)
            try replace HRN:=Hd (HRN.out.below hbb HRN.out.lt)
            try replace HRZ:=Hd (HRZ.out.below hbb HRZ.out.lt)
            try replace HO1:=Hd (zab HO1.out hbb (G _))
            try replace HO2:=Hd (zab HO2.out hbb (G _))
            try replace HO3:=Hd (zab HO3.out hbb (G _))
            have HRZ:=Hd (Row.new (w:=wx) (t := 211) wx.heap.size [f l 0,m r 0 0,F false,m r 0 0] rfl)
            have hz:=V (J _) (Y wx (E #[f l 0,m r 0 0,F false,m r 0 0] 211)).symm
            clear hbb
            generalize wx.alloc (E #[f l 0,m r 0 0,F false,m r 0 0] 211)=wx at *)
        ))
       )))
       all_goals (focus (
        refine zad (rs:=[15]) (by kernel_rfl) (by simp) ?_
        refine P (i:=15) rfl (fun K hK => ?_) ?_
        · skip
          have HC1:=Hd hC
          refine zai (w:=wx) _ _ 173 rfl rfl Tryz.underlying173 HTI.out.1 HTI.out.2.1 HTI.out.2.2.1 HTI.out.2.2.2 rfl (by decide) rfl (zab HG.out.own hC (G _)) rfl (zdW HRZ.out rfl) (by simp [Value.oneCell']) (by unfold maxLen;omega) (by omega) (by have:=hC.size;omega) ?_
          intro v2 wg1 hown2 hg2 hv2
          obtain ⟨b2,c2,hv2e,hb2,hb2l⟩:=hown2.form (by omega)
          subst hv2e
          refine hK.out _ _ (KB.grow hS hg2 fun b q => .inl (.inr q)) (fun q=>O (show true=false from q)) (fun hS hCC => ?_)
          clear hK K
          try simp only [D,y,B,C]
          have HOWN2:=Hd hown2
          have HG2:=Hd hg2
          have HV2:=Hd hv2
          have gx:=(jd (a:=⟨(w.heap.size+1),0,r⟩) (hg2.block (w.heap.size+1) (U gl HC1.out.size) (fun q=>HNG.out q.symm))).trans ((HC1.out.cell (p:=⟨(w.heap.size+1),0,r⟩) gl).trans y0)
          have gf:=(je (a:=⟨(w.heap.size+1),0,r⟩) (hg2.block (w.heap.size+1) (U gl HC1.out.size) (fun q=>HNG.out q.symm))).trans ((HC1.out.frozen (p:=⟨(w.heap.size+1),0,r⟩) gl).trans (Row.free HR.out 0))
          have e0:=za4 hown2 HFL.out 0 (u := f l 0) rfl
          have e1:=za4 hown2 HFL.out 1 (u := m r 0 0) rfl
          have e2:=za4 hown2 HFL.out 2 (u := F false) rfl
          have e3:=za4 hown2 HFL.out 3 (u := m r 0 0) rfl
          rw [Nat.add_zero] at e0
          have ef0:=hown2.frozenAt (its1.length*4)
          have ef1:=hown2.frozenAt (its1.length*4+1)
          have ef2:=hown2.frozenAt (its1.length*4+2)
          have ef3:=hown2.frozenAt (its1.length*4+3)
          have hgb:(w.heap.size+1)≠b2:=zcz hv2 rfl HNG.out (U gl HC1.out.size)
          have hbg:=hgb.symm
          have hbX:(b2=(w.heap.size+1)∨(m AV its1.length cV).ownBlock=some b2)∨w1.heap.size≤b2:=by
           rcases hv2 with q | q
           · exact .inl (.inr q.symm)
           · have:=HC1.out.size
             have q':b2=wx.heap.size:=by cases q;rfl
             exact .inr (by omega)
          clear hown2 hg2 hv2
          refine zam 16 rfl hS (fun q=>O (show true=false from q)) ?_
          try simp only [D,y,B,C]
          refine zad (rs:=[17,18]) (by kernel_rfl) (by simp) ?_
          refine P (i:=17) rfl (fun K hK => ?_) ?_
          · skip
            go_simp
            refine hK.out _ _ (I (I (I (I hS hbX _ _) hbX _ _) hbX _ _) hbX _ _) (fun q=>O (show true=false from q)) (fun hS hCC => ?_)
            clear hK K
            try simp only [D,y,B,C]
            refine zad (rs:=[18]) (by kernel_rfl) (by simp) ?_
            refine P (i:=18) rfl (fun K hK => ?_) ?_
            · skip
              go_simp
              refine hK.out _ _ (I hS (.inl (.inl rfl)) _ _) (fun q=>O (show true=false from q)) (fun hS hCC => ?_)
              clear hK K
              try simp only [D,y,B,C]
              refine zaR (by kernel_rfl) ?_ _
              have HFIN:=zdQ (X:=fun b=>b=w.heap.size+1) rfl HR.out HG.out HC1.out HO3.out (by have:=HLN3.out;have:=HLN.out;omega) HW3.out HG2.out HV2.out HOWN2.out
              have HFIN2:=HFIN
              unfold zcn at HFIN2
              rw [← zb3 (w.heap.size+1) b2 0 _ hgb _ _] at HFIN2
              simp only [zcn,Go.Proofs.YtjkimieapfbhbaaGreatDoor.sets,jb,jc] at HFIN HFIN2
              have HN1:=Hd (H1.out.put HFIN)
              have HN2:=Hd (H1.out.put HFIN2)
              clear HFIN HFIN2 gx gf e0 e1 e2 e3 ef0 ef1 ef2 ef3 y0
              go_wp2
              go_meet
              first
               | (obtain ⟨v',its',q1,q2⟩:=HN1.out;with_reducible exact NmlR.mk q1 (by have:=H1L.out;omega))
               | (obtain ⟨v',its',q1,q2⟩:=HN2.out;with_reducible exact NmlR.mk q1 (by have:=H1L.out;omega))
            exact Q
          refine P (i:=18) rfl (fun K hK => ?_) ?_
          · skip
            go_simp
            refine hK.out _ _ (I hS (.inl (.inl rfl)) _ _) (fun q=>O (show true=false from q)) (fun hS hCC => ?_)
            clear hK K
            try simp only [D,y,B,C]
            refine zad (rs:=[17]) (by kernel_rfl) (by simp) ?_
            refine P (i:=17) rfl (fun K hK => ?_) ?_
            · skip
              go_simp
              refine hK.out _ _ (I (I (I (I hS hbX _ _) hbX _ _) hbX _ _) hbX _ _) (fun q=>O (show true=false from q)) (fun hS hCC => ?_)
              clear hK K
              try simp only [D,y,B,C]
              refine zaR (by kernel_rfl) ?_ _
              have HFIN:=zdQ (X:=fun b=>b=w.heap.size+1) rfl HR.out HG.out HC1.out HO3.out (by have:=HLN3.out;have:=HLN.out;omega) HW3.out HG2.out HV2.out HOWN2.out
              have HFIN2:=HFIN
              unfold zcn at HFIN2
              rw [← zb3 (w.heap.size+1) b2 0 _ hgb _ _] at HFIN2
              simp only [zcn,Go.Proofs.YtjkimieapfbhbaaGreatDoor.sets,jb,jc] at HFIN HFIN2
              have HN1:=Hd (H1.out.put HFIN)
              have HN2:=Hd (H1.out.put HFIN2)
              clear HFIN HFIN2 gx gf e0 e1 e2 e3 ef0 ef1 ef2 ef3 y0
              go_wp2
              go_meet
              first
               | (obtain ⟨v',its',q1,q2⟩:=HN1.out;with_reducible exact NmlR.mk q1 (by have:=H1L.out;omega))
               | (obtain ⟨v',its',q1,q2⟩:=HN2.out;with_reducible exact NmlR.mk q1 (by have:=H1L.out;omega))
            exact Q
          exact Q
        exact Q
       ))
     · have e1:(n.scheme != 0)=false:=by rw [bne_eq_false_iff_eq];omega
       go_wp2
       go_meet
       exact NmlR.mk H1.out (by have:=H1L.out;omega)
    case rest =>
     obtain ⟨v2,its2,k2,n2⟩:=hcut
     have H2:=Hd k2
     have H2L:=Hd n2
     clear k2 n2 c24
     obtain ⟨c27,c28,c29⟩:=kb3 H2.out.bel (J _) ⟨HQ27.out,HQ28.out,HQ29.out⟩
     have hl3:=H2L.out
     go_wp2_with fail
     refine (zcY (w.heap.size+1) W0 v2 its2 (n.defi.on) ⟨#[100,101,102,105,110,105,116,101]⟩ [n.defi.a,n.defi.b] 2 #[.int .i64 n.defi.a,.int .i64 n.defi.b] wc (HT.out.below H2.out.bel (by omega)) H2.out (by omega) (Wt.lit rfl) rfl rfl (by decide) (by intro z hz;simp only [M,L,or_false] at hz;rcases hz with rfl | rfl;exact HN6.out.defi.a;exact HN6.out.defi.b)).mono ?_
     rintro e w3 ⟨rfl,v3,its3,k3,n3⟩
     have H3:=Hd k3
     have H3L:=Hd (show its3.length≤6 by omega)
     clear k3 n3 hl3 c27 c28 c29
     obtain ⟨c30,c31,c32⟩:=kb3 H3.out.bel (J _) ⟨HQ30.out,HQ31.out,HQ32.out⟩
     have hl4:=H3L.out
     go_wp2_with fail
     refine (zcY (w.heap.size+1) W0 v3 its3 (n.inv.on) ⟨#[105,110,118,101,114,115,101]⟩ [n.inv.a,n.inv.b] 2 #[.int .i64 n.inv.a,.int .i64 n.inv.b] w3 (HT.out.below H3.out.bel (by omega)) H3.out (by omega) (Wt.lit rfl) rfl rfl (by decide) (by intro z hz;simp only [M,L,or_false] at hz;rcases hz with rfl | rfl;exact HN6.out.inv.a;exact HN6.out.inv.b)).mono ?_
     rintro e w4 ⟨rfl,v4,its4,k4,n4⟩
     have H4:=Hd k4
     have H4L:=Hd (show its4.length≤7 by omega)
     clear k4 n4 hl4 c30 c31 c32
     obtain ⟨c33,c34,c35⟩:=kb3 H4.out.bel (J _) ⟨HQ33.out,HQ34.out,HQ35.out⟩
     have hl5:=H4L.out
     go_wp2_with fail
     refine (zcY (w.heap.size+1) W0 v4 its4 (n.fail.on) ⟨#[102,97,105,108]⟩ [n.fail.a,n.fail.b] 2 #[.int .i64 n.fail.a,.int .i64 n.fail.b] w4 (HT.out.below H4.out.bel (by omega)) H4.out (by omega) (Wt.lit rfl) rfl rfl (by decide) (by intro z hz;simp only [M,L,or_false] at hz;rcases hz with rfl | rfl;exact HN6.out.fail.a;exact HN6.out.fail.b)).mono ?_
     rintro e w5 ⟨rfl,v5,its5,k5,n5⟩
     have H5:=Hd k5
     have H5L:=Hd (show its5.length≤8 by omega)
     clear k5 n5 hl5 c33 c34 c35
     obtain ⟨c36,c37,c38⟩:=kb3 H5.out.bel (J _) ⟨HQ36.out,HQ37.out,HQ38.out⟩
     have hl6:=H5L.out
     go_wp2_with fail
     refine (zcY (w.heap.size+1) W0 v5 its5 (n.shots != 0) ⟨#[114,101,99,108,111,115,101]⟩ [n.shots,n.dead,n.reclaim] 3 #[.int .i64 n.shots,.int .i64 n.dead,.int .i64 n.reclaim] w5 (HT.out.below H5.out.bel (by omega)) H5.out (by omega) (Wt.lit rfl) rfl rfl (by decide) (by intro z hz;simp only [M,L,or_false] at hz;rcases hz with rfl | rfl | rfl;exact HN6.out.shots.1;exact HN6.out.shots.2.1;exact HN6.out.shots.2.2)).mono ?_
     rintro e w6 ⟨rfl,v6,its6,k6,n6⟩
     have H6:=Hd k6
     have H6L:=Hd (show its6.length≤9 by omega)
     clear k6 n6 hl6 c36 c37 c38
     obtain ⟨c39,c40,c41⟩:=kb3 H6.out.bel (J _) ⟨HQ39.out,HQ40.out,HQ41.out⟩
     have hl7:=H6L.out
     go_wp2_with fail
     refine (zcY (w.heap.size+1) W0 v6 its6 (n.under.on) ⟨#[117,110,100,101,114]⟩ [n.under.a,n.under.b] 2 #[.int .i64 n.under.a,.int .i64 n.under.b] w6 (HT.out.below H6.out.bel (by omega)) H6.out (by omega) (Wt.lit rfl) rfl rfl (by decide) (by intro z hz;simp only [M,L,or_false] at hz;rcases hz with rfl | rfl;exact HN6.out.under.a;exact HN6.out.under.b)).mono ?_
     rintro e w7 ⟨rfl,v7,its7,k7,n7⟩
     have H7:=Hd k7
     have H7L:=Hd (show its7.length≤10 by omega)
     clear k7 n7 hl7 c39 c40 c41
     obtain ⟨c42,c43,c44⟩:=kb3 H7.out.bel (J _) ⟨HQ42.out,HQ43.out,HQ44.out⟩
     have hl8:=H7L.out
     go_wp2_with fail
     refine (zcY (w.heap.size+1) W0 v7 its7 (n.over.on) ⟨#[111,118,101,114]⟩ [n.over.a,n.over.b] 2 #[.int .i64 n.over.a,.int .i64 n.over.b] w7 (HT.out.below H7.out.bel (by omega)) H7.out (by omega) (Wt.lit rfl) rfl rfl (by decide) (by intro z hz;simp only [M,L,or_false] at hz;rcases hz with rfl | rfl;exact HN6.out.over.a;exact HN6.out.over.b)).mono ?_
     rintro e w8 ⟨rfl,v8,its8,k8,n8⟩
     have H8:=Hd k8
     have H8L:=Hd (show its8.length≤11 by omega)
     clear k8 n8 hl8 c42 c43 c44
     obtain ⟨c45,c46,c47,c48⟩:=kb4 H8.out.bel (J _) ⟨HQ45.out,HQ46.out,HQ47.out,HQ48.out⟩
     have hl9:=H8L.out
     go_wp2_with fail
     refine (zcY (w.heap.size+1) W0 v8 its8 (n.diff != 0) ⟨#[100,105,102,102,101,114,101,110,116,105,97,108]⟩ [n.diff,n.num,n.den,n.harm] 4 #[.int .i64 n.diff,.int .i64 n.num,.int .i64 n.den,.int .i64 n.harm] w8 (HT.out.below H8.out.bel (by omega)) H8.out (by omega) (Wt.lit rfl) rfl rfl (by decide) (by intro z hz;simp only [M,L,or_false] at hz;rcases hz with rfl | rfl | rfl | rfl;exact HN6.out.diff.1;exact HN6.out.diff.2.1;exact HN6.out.diff.2.2.1;exact HN6.out.diff.2.2.2)).mono ?_
     rintro e w9 ⟨rfl,v9,its9,k9,n9⟩
     have H9:=Hd k9
     have H9L:=Hd (show its9.length≤12 by omega)
     clear k9 n9 hl9 c45 c46 c47 c48
     have y0:=Row.cell (k:=0) (v:=v9) H9.out.row rfl
     obtain ⟨AV,cV,hvv,hcl,hcm⟩:=zac H9.out.gr.own
     subst hvv
     go_wp2
     go_ret
     exact ⟨AV,cV,its9,rfl,H9L.out,⟨hcl,hcm⟩,H9.out.gr.free (by omega),HB.out.trans (H9.out.bel.mono (Nat.le_succ _))⟩
end Go.Proofs.YtjkimieapfbhbaaGreatDoor
