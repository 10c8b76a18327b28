/-
 The statements of a configuration's relays.
-/
import Derived.Test.YtjkimieapfbhbaaGreatDoorYk
import Derived.Test.YtjkimieapfbhbaaGreatDoorYl
set_option maxRecDepth 100000
set_option maxHeartbeats 64000000
open Go.Value renaming slice → f, string → m, bool → C, int → D, ownBlock → ja
open Option renaming none → l
open Go.IntKind renaming i64 → E
open List renaming setIfInBounds_toArray → G, set_cons_zero → I, set_cons_succ → J, not_mem_nil → V, mem_cons → Y
open Go.Act renaming put → L
open Go.Obj renaming cells → M
open Nat renaming le_refl → O, lt_of_lt_of_le → U
open Go.Proofs.YtjkimieapfbhbaaGreatDoor.AllReadyT renaming nil → P, cons → Q
open Bool renaming noConfusion → Z
namespace Go.Proofs.YtjkimieapfbhbaaGreatDoor
open Go.RowKit
attribute [local go_sem ↓] zav zaw
attribute [local go_sem] zay zaz
structure RlB (base g:Nat) (w0 wr:World) (A:Option Addr) (c:Nat) (q:Bool) (v:Value) (ws:List (ByteArray × Bool)):Prop where
 row:Row wr g 211 [D E 0,f A ws.length c,C q,v]
 own:wr.ownsRow base 217 2 (f A ws.length c) ws.length (ws.flatMap wdC)
 w1:1≤ws.length∧ws.length≤19
 wt:∀ x∈ws,Wt x.1
 ng:∀ b,(f A ws.length c).ownBlock=some b→b≠g
 bel:Below base w0 wr
 bg:base≤g
theorem ziX {w:World} {base n g:Nat} {v:Value} {xs cs:List Value} (ho:w.ownsRow base 217 2 v n xs) (R:Row w g 211 cs) (b:Nat) (q:v.ownBlock=some b):b≠g:=by
 rintro rfl
 rcases ho.2 with ⟨rfl,-⟩ | ⟨b',cap,cur,rfl,-,h3,-⟩
 · simp [ja] at q
 · have q':b'=b:=by simpa [ja] using q
   subst q'
   unfold Row at R
   rw [R] at h3
   simp at h3
theorem zdT {w w':World} {b o n:Nat} (h:w'.heap[b]? = w.heap[b]?):zbG w' b o n=zbG w b o n:=by
 unfold zbG
 congr 1
 funext j
 exact World.cell?_of_block (a:=⟨b,o+j,l⟩) h
theorem zmj {d:Nat} {w:World} {S:Nat→Prop} {cs:List Value} (h:ItC d w S cs ()):∀ u∈cs,u.oneCell'=true:=by
 cases d with
 | zero=>exact h.elim
 | succ d =>
   obtain ⟨A,c,q,A',n',c',ws,e,-⟩:=h
   rw [e]
   intro u hu
   simp only [Y,V,or_false] at hu
   rcases hu with rfl | rfl | rfl | rfl <;> rfl
theorem zet {d:Nat} {w:World} {S:Nat→Prop} {its:List (List Value)} (h:∀ c∈its,ItC d w S c ()):∀ u∈its.flatten,u.oneCell'=true:=by
 intro u hu;obtain ⟨c,hc,hu⟩:=List.mem_flatten.1 hu;exact zmj (h c hc) u hu
theorem Grows.but {d:Nat} {X:Nat→Prop} {base:Nat} {w:World} {v:Value} {its:List (List Value)} (h:Grows d (fun _=>False) base w v its) (hX:∀ b,X b→b<base∧b<w.heap.size):Grows d X base w v its:=
 ⟨h.own,fun c hc=>ItC.mono d _ _ _ _ _ _ (fun b q=>⟨q.1,q.2.1,q.2.2.1,fun z=>by have:=(hX b z).1;have:=q.1;omega⟩) (KeepOn.refl _ _) (h.each c hc),fun b q z=>by have:=(h.own.lt b q).1;have:=(hX b z).1;omega,fun b z=>(hX b z).2,h.lo⟩
def RlR (base g:Nat) (w0 wr:World):Prop:=∃ A c ws,RlB base g w0 wr A c false (f l 0 0) ws
theorem RlB.set {base g:Nat} {w0 wr:World} {A:Option Addr} {c:Nat} {q q':Bool} {v v':Value} {ws:List (ByteArray × Bool)} (h:RlB base g w0 wr A c q v ws) {i:Nat} {u:Value} (hr:[D E 0,f A ws.length c,C q,v].set i u=[D E 0,f A ws.length c,C q',v']) :
 RlB base g w0 (wr.setCell ⟨g,i,l⟩ u) A c q' v' ws:=
 ⟨by rw [← hr];exact h.row.set,zat h.own fun b q=>heap_setCell_other _ ⟨g,i,l⟩ b _ (h.ng b q),h.w1,h.wt,h.ng,h.bel.setCell (p:=⟨g,i,l⟩) h.bg _,h.bg⟩
theorem RlB.below {base g:Nat} {w0 wr w':World} {A:Option Addr} {c:Nat} {q:Bool} {v:Value} {ws:List (ByteArray × Bool)} (h:RlB base g w0 wr A c q v ws) (hb:Below wr.heap.size wr w') (hbase:base≤wr.heap.size):RlB base g w0 w' A c q v ws:=
 ⟨h.row.below hb h.row.lt,zab h.own hb (O _),h.w1,h.wt,h.ng,h.bel.trans (hb.mono hbase),h.bg⟩
theorem zlQ {base g c1 c3 n:Nat} {w0 wr W w3:World} {A1 A3:Option Addr} {ws ws3:List (ByteArray × Bool)} (h:RlB base g w0 wr A1 c1 false (f l 0 0) ws) (hbr:base≤wr.heap.size) (hW:Below wr.heap.size wr W) (hkb:KB (fun b=>(f A1 ws.length c1).ownBlock=some b) W w3) (hl:ws.length+n≤ws3.length∧ws3.length≤ws.length+n) (hn:ws.length+n≤19)
 (ho:w3.ownsRow base 217 2 (f A3 ws3.length c3) ws3.length (ws3.flatMap wdC)) (hw:∀ x∈ws3,Wt x.1) (hb:Below base W w3) :
 RlR base g w0 (sets g w3 [(0,D E 0),(1,f A3 ws3.length c3),(2,C false),(3,f l 0 0)]):=by
 have h1:=h.w1;have R3:Row w3 g 211 [D E 0,f A1 ws.length c1,C false,f l 0 0]:=(hkb.block g (U h.row.lt hW.size) (fun q=>h.ng g q rfl)).trans (h.row.below hW h.row.lt);have hA:=ziX ho R3;refine ⟨A3,c3,ws3,R3.sets [(0,D E 0),(1,f A3 ws3.length c3),(2,C false),(3,f l 0 0)],zat ho fun b q=>zaf _ _ _ b (hA b q),by omega,hw,hA,?_,h.bg⟩
 exact zak h.bg [(0,D E 0),(1,f A3 ws3.length c3),(2,C false),(3,f l 0 0)] w3 ((h.bel.trans (hW.mono hbr)).trans hb)
theorem zjJ (xs:List ByteArray) (n:Nat) (hn:xs.length=n) (hl:n≤40) (hw:∀ s∈xs,Wt s) (W:World) (k:Nat) (R:Row W k 9 (xs.map m)) {base c1:Nat} {A1:Option Addr} {ws:List (ByteArray × Bool)} (ho1:W.ownsRow base 217 2 (f A1 ws.length c1) ws.length (ws.flatMap wdC)) (hb:base≤W.heap.size) (hw1:∀ x∈ws,Wt x.1) (hl1:ws.length≤19) (hne:(f A1 ws.length c1).ownBlock≠some k) :
 Calls Tryz.prog 123 #[.agg #[D E 0,f A1 ws.length c1,C false,f l 0 0],f (some ⟨k,0,l⟩) n n] W (fun e w'=>zd1 base (ws.length+n) (ws.length+n) W e w'∧KB (fun b=>(f A1 ws.length c1).ownBlock=some b) W w'):=by
 subst hn;refine (zdn (fun b=>b<W.heap.size∧(f A1 ws.length c1).ownBlock≠some b) _ _ base A1 c1 ws xs W ((zlR xs R hw).mono WtC.mono (fun b q=>by subst q;exact ⟨R.lt,hne⟩) (KeepOn.refl _ _)) hl hb ho1 hw1 hl1 (fun b q=>q)).mono ?_
 rintro e w' ⟨h,hk⟩
 refine ⟨h,?_⟩
 obtain ⟨A',c',ws',-,-,-,-,-,hbel⟩:=h;exact ⟨hbel.os,hbel.tape,hbel.output,hbel.size,fun b hb hn=>hk b ⟨hb,hn⟩⟩
theorem zdV (B:Nat) (p:StAt) (S:StatM) (A:Option Addr) (cc:Nat) (xs:List RelayX) (w:World) (hB:B≤w.heap.size) (T:Tab w) (h:ConfX w B p S A cc xs) (hF:StF S) (hR:zkR S xs) (hn:xs.length≤20) :
 Calls Tryz.prog 80 #[.agg #[m S.name,f p.A1 S.buses.length p.c1,f p.A2 S.lines.length p.c2,f p.A3 S.sources.length p.c3,f p.A4 S.bays.length p.c4],f A xs.length cc] w (zh0 20 w):=by
 obtain ⟨j0,hi,hz0,hz1,hz2⟩:=info_parts zcK;have HTJ:=Hd (And.intro hi (And.intro hz0 (And.intro hz1 hz2)));clear hi hz0 hz1 hz2;have hb:=zaa w (M #[m S.name,f p.A1 S.buses.length p.c1,f p.A2 S.lines.length p.c2,f p.A3 S.sources.length p.c3,f p.A4 S.bays.length p.c4] 27);have R0:Row (w.alloc (M #[m S.name,f p.A1 S.buses.length p.c1,f p.A2 S.lines.length p.c2,f p.A3 S.sources.length p.c3,f p.A4 S.bays.length p.c4] 27)) w.heap.size 27 [m S.name,f p.A1 S.buses.length p.c1,f p.A2 S.lines.length p.c2,f p.A3 S.sources.length p.c3,f p.A4 S.bays.length p.c4]:=Row.new w.heap.size [m S.name,f p.A1 S.buses.length p.c1,f p.A2 S.lines.length p.c2,f p.A3 S.sources.length p.c3,f p.A4 S.bays.length p.c4] rfl;obtain ⟨q0,q1,q2,q3,q4⟩:=kr5 R0;generalize hP1:p.A1=P1 at *;have HP1:=Hd hP1;clear hP1;generalize hP2:p.A2=P2 at *;have HP2:=Hd hP2;clear hP2;generalize hP3:p.A3=P3 at *;have HP3:=Hd hP3;clear hP3;generalize hP4:p.A4=P4 at *;have HP4:=Hd hP4;clear hP4;have l0:=R0.lt;have H:=Hd h;have HF:=Hd hF;have HRL:=Hd hR;have HT:=Hd T;have HB:=Hd hb;have hz:(w.alloc (M #[m S.name,f P1 S.buses.length p.c1,f P2 S.lines.length p.c2,f P3 S.sources.length p.c3,f P4 S.bays.length p.c4] 27)).heap.size=w.heap.size+1:=by simp
 have HSZ:=Hd hz;clear h hF hR T hb R0 hz;go_enter Tryz.func80,Tryz.ntmps80;go_upto_region 1 with fail
 generalize w.alloc (M #[m S.name,f P1 S.buses.length p.c1,f P2 S.lines.length p.c2,f P3 S.sources.length p.c3,f P4 S.bays.length p.c4] 27)=W0 at *;have HCK:=zeI B p S A cc xs W0 (Nat.le_trans hB HB.out.size) (H.out.mono (O _) (HB.out.mono hB)) HF.out HRL.out hn;rw [HP1.out,HP2.out,HP3.out,HP4.out] at HCK;go_wp2_with fail
 refine HCK.mono ?_
 rintro e w1 ⟨rfl,hb1⟩
 clear HCK;have c4:=(hb1.cell (p:=⟨w.heap.size,4,l⟩) l0).trans q4;have HB1:=Hd hb1;have hs1:=hb1.size;clear hb1 q0 q1 q2 q3 q4;go_wp2;have C4:=Hd c4;clear c4;have hsw:w.heap.size<w1.heap.size:=by have:=HSZ.out;omega
 go_loopw [7,21] (EncR 0 xs.length w1.heap.size w1) (fun _ i _=>xs.length-(intOf i).toNat)
 case atStart=>exact ⟨0,_,Nat.zero_le _,rfl,Grows.nil (fun _ q=>q.elim) (O _),rfl,Below.refl _ _⟩
 case round =>
  obtain ⟨k,its,hk,rfl,hg,hlen,hbel⟩:=hrel;have HGR:=Hd hg;have HBW:=Hd hbel;have hlo:=hg.lo;have hilen:its.length≤20:=by omega
  have HLEN:=Hd hlen;clear hg hbel hlen
  by_cases hlt:k<xs.length
  · have hwb:Below w.heap.size w wr:=HB.out.trans ((HB1.out.mono (by have:=HB.out.size;omega)).trans (HBW.out.mono (by omega)))
    obtain ⟨b,o,cs,x,rfl,hbB,hx,hlen,hRX,hat⟩:=(H.out.rows.mono RelayXC.mono (O _) (hwb.mono hB)).at_ hlt
    have hrow:=zbs hat hlen
    have hbx:zdi 53 cs:=⟨hlen,hRX.base.one⟩
    have hbw:b<wr.heap.size:=by omega
    have hb4:=zaa wr (M cs.toArray 60)
    have hrowN:=zcB wr cs 60 wr.heap.size 53 rfl hbx
    have F:=HRL.out k x hx
    obtain ⟨c49,c50,c51,c52,hcs⟩:=hRX.cells
    have f0:(wr.alloc (M cs.toArray 60)).cell? ⟨wr.heap.size,0,l⟩=some (m x.r.name):=zaI (by rw [hcs];rfl)
    have f1:(wr.alloc (M cs.toArray 60)).cell? ⟨wr.heap.size,1,l⟩=some (D E x.r.kind):=zaI (by rw [hcs];rfl)
    have f2:(wr.alloc (M cs.toArray 60)).cell? ⟨wr.heap.size,2,l⟩=some (D E x.n.bay):=zaI (by rw [hcs];rfl)
    have hki:(k:Int)<(xs.length:Int):=by omega
    have hk0:(0:Int)≤(k:Int):=by omega
    obtain ⟨AV,cV,rfl,-,-⟩:=zac HGR.out.own
    have HFX:=Hd F
    have HX4:=Hd hb4
    have HRX:=Hd (RelayXC.mono _ _ _ _ _ _ (O _) (hb4.mono (by omega)) hRX)
    have HCS:=Hd hcs
    have HBX:=Hd hbx
    have HWB:=Hd hwb
    clear F hRX hat hcs hb4 hx hlen hwb
    go_upto_region 8 with fail
    have l4:wr.heap.size<(wr.alloc (M cs.toArray 60)).heap.size:=by simp
    generalize wr.alloc (M cs.toArray 60)=w4 at *
    clear hrow
    go_wp2_with fail
    refine (zc5 [⟨#[114,101,108,97,121]⟩,x.r.name] 2 rfl (by decide) (by intro s hs;simp only [Y,V,or_false] at hs;rcases hs with rfl | rfl;exact Wt.lit rfl;exact Wt.ok HFX.out.name) _ _ (Row.new (w:=w4) (t := 9) w4.heap.size [.string ⟨#[114,101,108,97,121]⟩,.string x.r.name] rfl)).mono ?_
    rintro e w5 ⟨A5,c5,ws,rfl,hln,hcc,ho5,hw5,hb5⟩
    have hb45:Below w4.heap.size w4 w5:=(zaa w4 (M #[m ⟨#[114,101,108,97,121]⟩,m x.r.name] 9)).trans (hb5.mono (by simp))
    have hs45:=hb45.size
    have hr6:RlB w4.heap.size w5.heap.size w4 (w5.alloc (M #[D E 0,f A5 ws.length c5,C false,f l 0 0] 211)) A5 c5 false (f l 0 0) ws:=
     ⟨Row.new _ [D E 0,f A5 ws.length c5,C false,f l 0 0] rfl,(zao ho5 (by simp)).alloc _,by omega,hw5,fun b q=>by have:=(ho5.lt b q).2;omega,hb45.trans ((zaa w5 _).mono hs45),hs45⟩
    have hb46:Below w4.heap.size w4 (w5.alloc (M #[D E 0,f A5 ws.length c5,C false,f l 0 0] 211)):=hr6.bel
    go_upto_region 9 with fail
    have hz6:w5.heap.size<(w5.alloc (M #[D E 0,f A5 ws.length c5,C false,f l 0 0] 211)).heap.size:=by simp
    generalize w5.alloc (M #[D E 0,f A5 ws.length c5,C false,f l 0 0] 211)=w6 at *
    have F1:=(hb46.cell (p:=⟨wr.heap.size,1,l⟩) l4).trans f1
    have HR6:=Hd hr6
    have HLN:=Hd hln
    have HF0:=Hd f0
    have HF1:=Hd f1
    have HF2:=Hd f2
    have HRN:=Hd hrowN
    clear ho5 hw5 hb5 hb45 hr6 hln hcc f0 f1 f2 hrowN
    go_upto_if 31 with fail
    go_cut [] from 29 to 47 (fun wx=>RlR w4.heap.size w5.heap.size w4 wx)
    case first =>
     obtain ⟨m0,m1,m2,m3⟩:=kr4 HR6.out.row
     by_cases hk4:x.r.kind=4
     · have e4:(x.r.kind == 4)=true:=by rw [hk4];rfl
       go_wp2_with fail
       refine (zjJ [⟨#[98,117,115]⟩] 1 rfl (by decide) (by intro s hs;simp at hs;subst hs;exact Wt.lit rfl) _ _ (Row.new (w:=w6) (t := 9) w6.heap.size [.string ⟨#[98,117,115]⟩] rfl) (HR6.out.own.alloc _) (by simp;omega) HR6.out.wt (by have:=HLN.out;omega) (fun q=>by have:=(HR6.out.own.lt _ q).2;omega)).mono ?_
       rintro e w7 ⟨⟨A3,c3,ws3,rfl,hlen3,hcc3,ho3,hw3,hb3⟩,hkb⟩
       have hC6:=zaa w6 (M #[m ⟨#[98,117,115]⟩] 9)
       have hR7:Row w7 w5.heap.size 211 [D E 0,f A5 ws.length c5,C false,f l 0 0]:=(hkb.block _ (U HR6.out.row.lt hC6.size) (fun q=>HR6.out.ng _ q rfl)).trans (HR6.out.row.below hC6 HR6.out.row.lt)
       obtain ⟨n0,n1,n2,n3⟩:=kr4 hR7;obtain ⟨nf0,nf1,nf2,nf3⟩:=kq4 hR7
       have HFI:=Hd (zlQ HR6.out (by omega) hC6 hkb hlen3 (by have:=HLN.out;omega) ho3 hw3 hb3)
       clear m0 m1 m2 m3 ho3 hw3 hb3 hkb hlen3 F1
       go_wp2
       go_meet
       exact HFI.out
     · have e4:(x.r.kind == 4)=false:=by rw [beq_eq_false_iff_ne];exact hk4
       obtain ⟨j,hj,y,hy⟩:∃ j:Nat,x.n.bay=(j:Int)∧∃ y,S.bays[j]? = some y:=by
        rcases HFX.out.place.1 with ⟨q,-⟩ | ⟨-,q1,y,q2,-⟩
        · exact absurd q hk4
        · exact ⟨x.n.bay.toNat,by omega,y,q2⟩
       have hjl:j<S.bays.length:=(List.getElem?_eq_some_iff.1 hy).1
       obtain ⟨bb,oo,cs',y',hA,hbB',hy',-,⟨AL,cL,rfl,-⟩,hat⟩:=H.out.st.bays.at_ hjl
       have hyy:y'=y:=by rw [hy] at hy';cases hy';rfl
       subst hyy
       have hP:P4=some ⟨bb,oo,l⟩:=HP4.out.symm.trans hA
       subst hP
       have HYW:=Hd (Wt.ok (zbF HF.out (by simp only [StatM.names,List.mem_append,List.mem_map];exact .inr (.inr (.inr ⟨y',List.mem_of_getElem? hy,rfl⟩)))))
       have hw46:w4.heap.size≤w6.heap.size:=by omega
       have hww:w.heap.size<wr.heap.size:=by have:=HBW.out.size;omega
       have g2:=(hb46.cell (p:=⟨wr.heap.size,2,l⟩) l4).trans HF2.out
       rw [hj] at g2
       have h16:Below w1.heap.size w1 w6:=HBW.out.trans ((HX4.out.mono (by omega)).trans (hb46.mono (by omega)))
       have g4:=(h16.cell (p:=⟨w.heap.size,4,l⟩) hsw).trans C4.out
       have h06:Below w.heap.size w w6:=HWB.out.trans ((HX4.out.mono (by omega)).trans (hb46.mono (by omega)))
       have gn:w6.cell? ⟨bb,oo+j*12,l⟩=some (m y'.name):=(h06.cell (p:=⟨bb,oo+j*12,l⟩) (by show bb<_;omega)).trans (by simpa using hat 0 _ rfl)
       have hji:(j:Int)<(S.bays.length:Int):=by omega
       have hj0:(0:Int)≤(j:Int):=by omega
       have hnx:∀ b,b<w4.heap.size→¬ (b=w5.heap.size∨(f A5 ws.length c5).ownBlock=some b):=fun b hb q=>by
        rcases q with q | q
        · omega
        · have:=(HR6.out.own.lt b q).1;omega
       have hbb:bb<w4.heap.size:=by omega
       have hwl:w.heap.size<w4.heap.size:=by omega
       clear hat hA hy hy' hbB' h16 h06
       go_upto_region 11 with fail
       refine zau (fun w'=>KB (fun b=>b=w5.heap.size∨(f A5 ws.length c5).ownBlock=some b) w6 w') (fun w'=>Below w6.heap.size w6 w') 12 (by kernel_rfl) ?_
       obtain ⟨wx,hwd0⟩:∃ x,x=w6.drew:=⟨_,rfl⟩
       have hS:KB (fun b=>b=w5.heap.size∨(f A5 ws.length c5).ownBlock=some b) w6 wx:=by rw [hwd0];exact (KB.refl _ _).drew
       have hC:Below w6.heap.size w6 wx:=by rw [hwd0];exact (Below.refl _ _).drew
       rw [← hwd0]
       clear hwd0
       have hz:=hC.size
       have hCC:=hC
       clear hb46
       refine zbO (i:=0) (v:=?_) rfl (by kernel_rfl) (by kernel_rfl) (by kernel_rfl) (by rfl) (by kernel_rfl) (by kernel_rfl) (fun _ _ _ h=>h) hS hCC (Or.inl ⟨by rfl,?yld⟩) ?_
       case yld=>(intro wq hSw;obtain ⟨u0,u1,u2,u3⟩:=kb4 hSw hz6 ⟨m0,m1,m2,m3⟩;go_simp <;> with_reducible rfl)
       try simp only [L,G,I,J]
       refine zam 1 rfl hS (fun _=>hCC) ?_
       try simp only [L,G,I,J]
       refine zaS 2 ?_ rfl hS (fun _=>hCC) ?yld ?_
       case yld=>(intro wq hSw;have e:=(hSw.cell (o:=1) (U l4 hw46) (hnx _ l4)).trans F1;go_simp <;> with_reducible rfl)
       try simp only [L,G,I,J]
       refine zam 4 rfl hS (fun _=>hCC) ?_
       try simp only [L,G,I,J]
       refine zaS 5 ?_ rfl hS (fun _=>hCC) ?yld ?_
       case yld=>(intro wq hSw;have e:=(hSw.cell (o:=4) (U hwl hw46) (hnx _ hwl)).trans g4;go_simp <;> with_reducible rfl)
       try simp only [L,G,I,J]
       refine zam 6 rfl hS (fun _=>hCC) ?_
       try simp only [L,G,I,J]
       refine zaS 7 ?_ rfl hS (fun _=>hCC) ?yld ?_
       case yld=>(intro wq hSw;have e:=(hSw.cell (o:=2) (U l4 hw46) (hnx _ l4)).trans g2;go_simp <;> with_reducible rfl)
       try simp only [L,G,I,J]
       refine zam 8 rfl hS (fun _=>hCC) ?_
       try simp only [L,G,I,J]
       refine zam 9 rfl hS (fun _=>hCC) ?_
       try simp only [L,G,I,J]
       refine zaS 10 ?_ rfl hS (fun _=>hCC) ?yld ?_
       case yld=>(intro wq hSw;have e:=(hSw.cell (b:=bb) (o:=oo+j*12) (U hbb hw46) (hnx _ hbb)).trans gn;go_simp <;> with_reducible rfl)
       try simp only [L,G,I,J]
       refine zad (rs:=[3]) (by kernel_rfl) (by simp) ?_
       refine Q (i:=3) rfl (fun K hK => ?_) ?_
       · skip
         go_simp
         go_at_call 124
         (with_reducible refine (zhx _ _).mono ?_)
         rintro e w9 ⟨⟨kw,rfl,hkw⟩,rfl⟩
         go_wp2_with fail
         refine hK.out _ _ (hS) (fun _=>hCC) (fun hS hCC => ?_)
         have hCC:=hCC rfl
         have hC:=hCC
         clear hK K
         try simp only [L,G,I,J]
         have HKW:=Hd hkw
         clear hkw
         refine zad (rs:=[11]) (by kernel_rfl) (by simp) ?_
         refine Q (i:=11) rfl (fun K hK => ?_) ?_
         · skip
           go_simp
           refine hK.out _ _ (KB.alloc hS _) (fun _=>hC.alloc hC.size _) (fun hS hCC => ?_)
           have hCC:=hCC rfl
           have hC:=hCC
           clear hK K
           try simp only [L,G,I,J]
           have HRL:=Hd (Row.new (w:=wx) (t := 9) wx.heap.size [m kw,m y'.name] rfl)
           have hz:=Nat.lt_of_lt_of_eq (Nat.lt_succ_self _) (World.size_alloc wx (M #[m kw,m y'.name] 9)).symm
           generalize wx.alloc (M #[m kw,m y'.name] 9)=wl1 at *
           refine zad (rs:=[12]) (by kernel_rfl) (by simp) ?_
           refine Q (i:=12) rfl (fun K hK => ?_) ?_
           · skip
             go_simp
             go_at_call 123
             (with_reducible refine (zjJ [kw,y'.name] 2 rfl (by decide) (by intro s hs;simp only [Y,V,or_false] at hs;rcases hs with rfl | rfl;exact HKW.out;exact HYW.out) _ _ HRL.out (zab HR6.out.own hC (O _)) (by omega) HR6.out.wt (by have:=HLN.out;omega) (fun q=>by have:=(HR6.out.own.lt _ q).2;omega)).mono ?_)
             rintro e wc2 ⟨⟨A3,c3,ws3,rfl,hlen3,hcc3,ho3,hw3,hb3⟩,hkb⟩
             have HC6:=Hd hC
             go_wp2_with fail
             refine hK.out _ _ (KB.kb hS hkb fun b q => .inl (.inr q)) (fun q=>Z (show true=false from q)) (fun hS hCC => ?_)
             clear hK K
             try simp only [L,G,I,J]
             have hR7:Row wc2 w5.heap.size 211 [D E 0,f A5 ws.length c5,C false,f l 0 0]:=(hkb.block _ (U HR6.out.row.lt HC6.out.size) (fun q=>HR6.out.ng _ q rfl)).trans (HR6.out.row.below HC6.out HR6.out.row.lt)
             obtain ⟨n0,n1,n2,n3⟩:=kr4 hR7;obtain ⟨nf0,nf1,nf2,nf3⟩:=kq4 hR7
             have HFI:=Hd (zlQ HR6.out (by omega) HC6.out hkb hlen3 (by have:=HLN.out;omega) ho3 hw3 hb3)
             clear ho3 hw3 hb3 hkb hlen3
             refine zad (rs:=[13]) (by kernel_rfl) (by simp) ?_
             refine Q (i:=13) rfl (fun K hK => ?_) ?_
             · skip
               go_simp
               refine hK.out _ _ (KB.setAt (KB.setAt (KB.setAt (KB.setAt hS (.inl (.inl rfl)) _ _) (.inl (.inl rfl)) _ _) (.inl (.inl rfl)) _ _) (.inl (.inl rfl)) _ _) (fun q=>Z (show true=false from q)) (fun hS hCC => ?_)
               clear hK K
               try simp only [L,G,I,J]
               refine zaR (by kernel_rfl) ?_ _
               go_wp2
               go_meet
               exact HFI.out
             exact P
           exact P
         exact P
       exact P
    case rest =>
     obtain ⟨A1,c1,ws1,h1⟩:=hcut
     clear F1
     have p2:=Row.cell (k:=2) (v := C false) h1.row rfl;have pf2:=Row.free h1.row 2
     have h8:=h1.set (i:=2) (u := C true) (q':=true) (v' := f l 0 0) rfl
     go_upto_region 13 with fail
     generalize wc.setCell ⟨w5.heap.size,2,l⟩ (C true)=w8 at *
     have H8:=Hd h8
     have hz48:w4.heap.size≤w8.heap.size:=h8.bel.size
     have hrw8:zbG w8 wr.heap.size 0 53=some cs:=(zdT (h8.bel.block _ l4)).trans HRN.out
     have hg8:w5.heap.size<w8.heap.size:=h8.row.lt
     have hl8:wr.heap.size<w8.heap.size:=by omega
     have hnx8:¬ (wr.heap.size=w5.heap.size):=by omega
     have hszz:w.heap.size<wr.heap.size:=by have:=HBW.out.size;omega
     have hw8:Below w.heap.size w w8:=HWB.out.trans ((HX4.out.mono (by omega)).trans (h8.bel.mono (by omega)))
     have HT8:=Hd (HT.out.below hw8 HT.out.2)
     have hTl : 0 < w.heap.size:=HT.out.2
     have HRX8:=Hd (RelayXC.mono _ _ _ _ _ _ (O _) (h8.bel.mono (show B≤w4.heap.size by omega)) HRX.out)
     clear h1 h8 p2 pf2 hw8 hb46
     refine zau (fun w'=>KB (fun b=>b=w5.heap.size) w8 w') (fun w'=>Below w8.heap.size w8 w') 6 (by kernel_rfl) ?_
     obtain ⟨wx,hwd0⟩:∃ x,x=w8.drew:=⟨_,rfl⟩
     have hS:KB (fun b=>b=w5.heap.size) w8 wx:=by rw [hwd0];exact (KB.refl _ _).drew
     have hC:Below w8.heap.size w8 wx:=by rw [hwd0];exact (Below.refl _ _).drew
     rw [← hwd0]
     clear hwd0
     have hz:=hC.size
     have hCC:=hC
     refine zaS 0 ?_ rfl hS (fun _=>hCC) ?yld ?_
     case yld=>(intro wq hSw;have e:=(zdT (o:=0) (n:=53) (hSw.block _ hl8 hnx8)).trans hrw8;go_simp <;> with_reducible rfl)
     try simp only [L,G,I,J]
     refine zaS 2 ?_ rfl hS (fun _=>hCC) ?yld ?_
     case yld=>(intro wq hSw;have e:=(zdT (o:=0) (n:=53) (hSw.block _ hl8 hnx8)).trans hrw8;go_simp <;> with_reducible rfl)
     try simp only [L,G,I,J]
     refine zad (rs:=[1]) (by kernel_rfl) (by simp) ?_
     refine Q (i:=1) rfl (fun K hK => ?_) ?_
     · skip
       go_simp
       go_at_call 125
       (with_reducible refine (zd5 x.r.name x.r.kind x.n c49 c50 c51 c52 cs HCS.out HFX.out.numbers _ (HT8.out.below hC (by omega))).mono ?_)
       rintro e wa ⟨An,cn,its1,rfl,hlim1,hcap1,hg1,hb1⟩
       have hC1:=hC.trans (hb1.mono hC.size)
       go_wp2_with fail
       refine hK.out _ _ (KB.of_below hC1) (fun _=>hC1) (fun hS hCC => ?_)
       have hCC:=hCC rfl
       have hC:=hCC
       clear hK K
       try simp only [L,G,I,J]
       have HG1:=Hd hg1
       have hz1:=hb1.size
       have HN1:=Hd (show ∀ b,(f An its1.length cn).ownBlock=some b→wx.heap.size≤b∧b<wa.heap.size from fun b q=>hg1.own.lt b q)
       clear hg1 hb1 hC1
       refine zad (rs:=[3]) (by kernel_rfl) (by simp) ?_
       refine Q (i:=3) rfl (fun K hK => ?_) ?_
       · skip
         go_simp
         go_at_call 126
         have hrxm:=RelayXC.mono _ _ _ _ _ _ (O _) (hC.mono (show B≤w8.heap.size by omega)) HRX8.out
         (with_reducible refine (zeR cs x B _ (by omega) hrxm HFX.out.count HFX.out.rules HFX.out.lists (HT8.out.below hC (by omega))).mono ?_)
         rintro e wb ⟨Al,cl,its2,rfl,hlim2,hcap2,hg2,hb2⟩
         have hC1:=hC.trans (hb2.mono hC.size)
         go_wp2_with fail
         refine hK.out _ _ (KB.of_below hC1) (fun _=>hC1) (fun hS hCC => ?_)
         have hCC:=hCC rfl
         have hC:=hCC
         clear hK K
         try simp only [L,G,I,J]
         have HG1:=Hd (HG1.out.below hb2 (O _))
         have HG2:=Hd hg2
         have hz2:=hb2.size
         clear hg2 hb2 hC1
         refine zad (rs:=[4]) (by kernel_rfl) (by simp) ?_
         refine Q (i:=4) rfl (fun K hK => ?_) ?_
         · skip
           refine zai (w:=wb) _ _ 173 rfl rfl Tryz.underlying173 HTJ.out.1 HTJ.out.2.1 HTJ.out.2.2.1 HTJ.out.2.2.2 rfl (by decide) rfl HG1.out.own rfl (by have h:=HG2.out.own;exact Src.of_own h) (zet HG2.out.each) (by unfold maxLen;omega) (by omega) (by omega) ?_
           intro v9 w9 hown9 hg9 hv9
           have hC1:=hC.trans (zaC hg9 hC.size fun q hq=>by have:=(HG1.out.own.lt q hq).1;omega)
           have hg3:=HG1.out.more (cs:=its2) (W:=wb) (O _) (fun _ _=>rfl) hg9 hv9 hown9 (fun c hc=>ItC.mono 1 _ _ _ _ _ _ (fun b q=>⟨by have:=q.1;omega,q.2.1,fun z=>by have:=(HN1.out b z).2;have:=q.1;omega,fun z=>z⟩) (KeepOn.refl _ _) (HG2.out.each c hc))
           obtain ⟨A9,c9,hv9e,hcl9,hcm9⟩:=zac hown9
           subst hv9e
           refine hK.out _ _ (KB.grow hS hg9 fun b q => .inr (by have:=(HG1.out.own.lt b q).1;omega)) (fun _=>hC1) (fun hS hCC => ?_)
           have hCC:=hCC rfl
           have hC:=hCC
           clear hK K
           try simp only [L,G,I,J]
           have HG3:=Hd hg3
           have R9:=H8.out.row.below hC H8.out.row.lt
           have y3:=Row.cell (k:=3) (v := f l 0 0) R9 rfl;have yf3:=Row.free R9 3
           have HC9:=Hd hC
           clear hown9 hg9 hv9 hg3 hC1 R9
           refine zam 5 rfl hS (fun _=>hCC) ?_
           try simp only [L,G,I,J]
           refine zad (rs:=[6]) (by kernel_rfl) (by simp) ?_
           refine Q (i:=6) rfl (fun K hK => ?_) ?_
           · skip
             go_simp
             refine hK.out _ _ (KB.setAt hS (.inl rfl) _ _) (fun q=>Z (show true=false from q)) (fun hS hCC => ?_)
             clear hK K
             try simp only [L,G,I,J]
             refine zaR (by kernel_rfl) ?_ _
             have h9:=(H8.out.below HC9.out (by omega)).set (i:=3) (u := f A9 (its1.length+its2.length) c9) (q':=true) (v' := f A9 (its1.length+its2.length) c9) rfl
             have hg10:=(HG3.out.but (X:=fun b=>b=w5.heap.size) (fun b q=>by subst q;have:=HC9.out.size;omega)).keep (w':=w9.setCell ⟨w5.heap.size,3,l⟩ (f A9 (its1.length+its2.length) c9)) (by simp) fun b _ hb=>heap_setCell_other _ ⟨w5.heap.size,3,l⟩ b _ (fun q=>hb q)
             clear y3 yf3
             go_upto_region 14 with fail
             generalize w9.setCell ⟨w5.heap.size,3,l⟩ (f A9 (its1.length+its2.length) c9)=w10 at *
             have hh:=h9.bel.size
             have hb5:Below wr.heap.size wr w10:=HX4.out.trans (h9.bel.mono (by omega))
             have hw1:=h9.w1
             have HIT:=Hd (show ItC 2 w10 (fun b=>wr.heap.size≤b∧b<w10.heap.size) [D E 0,f A1 ws1.length c1,C true,f A9 (its1.length+its2.length) c9] () from by
              obtain ⟨AQ,cQ,eQ,hc1,hc2⟩:=zac h9.own
              cases eQ
              exact ⟨A1,c1,true,A9,its1.length+its2.length,c9,ws1,rfl,by omega,⟨hc1,hc2⟩,zmD h9.own rfl h9.wt (fun b z1 z2=>⟨by omega,z2⟩),⟨hcl9,hcm9,by omega⟩,hg10.rw (by simp) (fun b z1 z2 _=>⟨by omega,z2⟩)⟩)
             have HB5:=Hd hb5
             obtain ⟨t0,t1,t2,t3⟩:=kr4 h9.row
             clear h9 hg10 hb5
             have HO5:=Hd ((zab HGR.out.own HB5.out (O _)).alloc (M #[D E 0,f A1 ws1.length c1,C true,f A9 (its1.length+its2.length) c9] 211))
             have HS5:=Hd (za5 w10 [D E 0,f A1 ws1.length c1,C true,f A9 (its1.length+its2.length) c9] 211 4 1 rfl)
             have hs5:=HB5.out.size
             go_wp2_with (at_builtin;refine zar (w:=w10.alloc (M #[D E 0,f A1 ws1.length c1,C true,f A9 (its1.length+its2.length) c9] 211)) _ _ 173 rfl rfl Tryz.underlying173 HTJ.out.1 HTJ.out.2.1 HTJ.out.2.2.1 HTJ.out.2.2.2 rfl (by decide) rfl HO5.out rfl HS5.out (by simp [Value.oneCell']) (by unfold maxLen;omega) (by omega) (by simp;omega) ?_)
             intro vX wX hown9 hg9 hv9
             have HG9:=Hd (zcj HGR.out HB5.out HIT.out hg9 (by simpa using hv9) (by simpa using hown9))
             have HB9:=Hd ((HBW.out.trans (HB5.out.mono hlo)).trans (((zaa w10 _).mono (by omega)).trans (zaC hg9 (by simp;omega) fun q hq=>(HO5.out.lt q hq).1)))
             clear hown9 hg9 hv9
             clear t0 t1 t2 t3
             obtain ⟨AX,cX,rfl,-,-⟩:=zac HG9.out.own
             go_wp2
             go_roundw
             case rel=>exact ⟨k+1,_,by omega,by go_num,HG9.out,by rw [List.length_append,HLEN.out];first | (simp;done) | (simp;omega),HB9.out⟩
             case measure=>simp [intOf];omega
           exact P
         exact P
       exact P
     exact P
  · obtain rfl:k=xs.length:=by omega
    obtain ⟨AV,cV,rfl,hcl,hcm⟩:=zac HGR.out.own
    clear hlt
    go_wp2
    go_ret
    exact ⟨AV,cV,its,rfl,by omega,⟨hcl,hcm⟩,HGR.out.base (by omega),HB.out.trans ((HB1.out.mono (by have:=HB.out.size;omega)).trans (HBW.out.mono (by omega)))⟩
end Go.Proofs.YtjkimieapfbhbaaGreatDoor
