/-
 Find of the program and of the reference, over any configuration; the law SignalsFinds.
-/
import Derived.Test.YtjkimieapfbhbaaGreatDoorKFind
import Derived.Test.YtjkimieapfbhbaaGreatDoorKSnP
set_option maxRecDepth 100000
set_option maxHeartbeats 8000000
open Go.Value renaming int → l, string → z, slice → D, agg → F
open Go.IntKind renaming i64 → q
open Option renaming none → y
open Go.Obj renaming cells → E
open Go.Proofs.Tryz renaming prog → G
open Nat renaming le_refl → I, zero_le → J, lt_of_lt_of_le → L
open List renaming getElem?_eq_none → K
namespace Go.Proofs.YtjkimieapfbhbaaGreatDoor
open Go.RowKit
attribute [local go_sem ↓] zav zaw
attribute [local go_sem] zay zaz
def zbi (rs:List RelayM) (relay sub:Int):Int × Int × Int × Int:=
 if relay<0 then (0,0,0,1) else
 match rs[relay.toNat]? with
 | Option.none=>(0,0,0,1)
 | some r=>if sub<0 then (0,0,0,1) else
   match r.subs[sub.toNat]? with
   | Option.none=>(0,0,0,1)
   | some x=>zbh rs relay (idx (fun r=>same r.name x.device) rs) x
structure RB (W:World) (g:Nat):Prop where
 lt:g<W.heap.size
 r0:W.cell? ⟨g,0,y⟩=some (l q 0)
 r1:W.cell? ⟨g,1,y⟩=some (l q 0)
 r2:W.cell? ⟨g,2,y⟩=some (l q 0)
 z0:W.frozen? ⟨g,0,y⟩=false
 z1:W.frozen? ⟨g,1,y⟩=false
 z2:W.frozen? ⟨g,2,y⟩=false
theorem RB.below {W W':World} {g B:Nat} (h:RB W g) (hb:Below B W W') (hg:g<B):RB W' g:=
 ⟨L h.lt hb.size,(hb.cell (p:=⟨g,0,y⟩) hg).trans h.r0,(hb.cell (p:=⟨g,1,y⟩) hg).trans h.r1,(hb.cell (p:=⟨g,2,y⟩) hg).trans h.r2,
  (hb.frozen (p:=⟨g,0,y⟩) hg).trans h.z0,(hb.frozen (p:=⟨g,1,y⟩) hg).trans h.z1,(hb.frozen (p:=⟨g,2,y⟩) hg).trans h.z2⟩
theorem zkO (a0 a1 a2 a3 a4:Value) (A:Option Addr) (c B:Nat) (rs:List RelayM) (relay sub:Int) (w:World) (hB:B≤w.heap.size) (h:Conf w B a0 a1 a2 a3 a4 A c rs) (hn:zaH rs) :
 Calls G 76 #[F #[a0,a1,a2,a3,a4,D A rs.length c],l q relay,l q sub] w (zeb (zbi rs relay sub) w):=by
 have hbA:=zaa w (E #[a0,a1,a2,a3,a4,D A rs.length c] 30);have hbB:=hbA.alloc (by simp) (E #[l q 0,l q 0,l q 0] 169);have H:=Hd h;have hr:=h.rows;clear h
 by_cases h0:relay<0
 · have e0:zbi rs relay sub=(0,0,0,1):=by simp [zbi,h0]
   have HE:=Hd e0
   clear e0 hr
   go_enter Tryz.func76,Tryz.ntmps76
   go_wp2
   refine bodyPost_ret (v := .tuple #[F #[l q 0,l q 0,l q 0],l q 1]) (by simp [results,Tryz.results76,go_sem]) rfl ⟨by rw [HE.out],?_⟩
   exact hbB
 obtain ⟨k,rfl⟩:=Int.eq_ofNat_of_zero_le (by omega:0≤relay)
 by_cases hk:k<rs.length
 case neg =>
  have e0:zbi rs (k:Int) sub=(0,0,0,1):=by simp [zbi,K (Nat.le_of_not_lt hk)]
  have HE:=Hd e0;have hk':(rs.length:Int)≤(k:Int):=by omega
  clear e0 hr;go_enter Tryz.func76,Tryz.ntmps76;go_wp2;refine bodyPost_ret (v := .tuple #[F #[l q 0,l q 0,l q 0],l q 1]) (by simp [results,Tryz.results76,go_sem]) rfl ⟨by rw [HE.out],?_⟩
  exact hbB
 obtain ⟨b,o,cs,r,rfl,hbB',hx,hR,hbx,hrow,hat⟩:=zcQ hr hk;have hb':b<w.heap.size:=by omega
 obtain ⟨c52,h52,A2,k2,e2,l2,m2,R2⟩:=hR.subs
 cases e2
 have q52:w.cell? ⟨b,o+k*53+52,y⟩=some (D A2 r.subs.length k2):=hat 52 _ h52
 by_cases h1:sub<0
 · have e0:zbi rs (k:Int) sub=(0,0,0,1):=by simp [zbi,hx,h1]
   have HE:=Hd e0
   clear e0 hr hx hat hrow hR
   go_enter Tryz.func76,Tryz.ntmps76
   go_wp2
   refine bodyPost_ret (v := .tuple #[F #[l q 0,l q 0,l q 0],l q 1]) (by simp [results,Tryz.results76,go_sem]) rfl ⟨by rw [HE.out],?_⟩
   exact hbB
 obtain ⟨m,rfl⟩:=Int.eq_ofNat_of_zero_le (by omega:0≤sub)
 by_cases hm:m<r.subs.length
 case neg =>
  have e0:zbi rs (k:Int) (m:Int)=(0,0,0,1):=by simp [zbi,hx,K (Nat.le_of_not_lt hm)]
  have HE:=Hd e0;have hm':(r.subs.length:Int)≤(m:Int):=by omega
  clear e0 hr hx hat hrow hR;go_enter Tryz.func76,Tryz.ntmps76;go_wp2;refine bodyPost_ret (v := .tuple #[F #[l q 0,l q 0,l q 0],l q 1]) (by simp [results,Tryz.results76,go_sem]) rfl ⟨by rw [HE.out],?_⟩
  exact hbB
 obtain ⟨b2,o2,ds,x,rfl,hbb,hsx,-,⟨rfl,-⟩,hat2⟩:=R2.at_ hm;have q0:w.cell? ⟨b2,o2+m*4,y⟩=some (z x.loc):=hat2 0 _ rfl;have q1:w.cell? ⟨b2,o2+m*4+1,y⟩=some (z x.device):=hat2 1 _ rfl;have q2:w.cell? ⟨b2,o2+m*4+2,y⟩=some (z x.set):=hat2 2 _ rfl;have q3:w.cell? ⟨b2,o2+m*4+3,y⟩=some (z x.signal):=hat2 3 _ rfl;have hb2':b2<w.heap.size:=by omega
 have e0:zbi rs (k:Int) (m:Int)=zbh rs (k:Int) (idx (fun r=>same r.name x.device) rs) x:=by simp [zbi,hx,hsx,show ¬ ((m:Int)<0) by omega,show ¬ ((k:Int)<0) by omega]
 have HE:=Hd e0;have hbC:=hbB.alloc (by simp;omega) (E #[z x.loc,z x.device,z x.set,z x.signal] 62);clear e0 hx hat hrow hR hsx hat2 R2;go_enter Tryz.func76,Tryz.ntmps76;go_wp2_with fail
 have hn20:=hn.1;refine (zgx (some ⟨b,o,y⟩) c B (w.heap.size+1+1) rs x.device _ (by simp;omega) (hr.mono RelayC.mono (I _) (hbC.mono hB)) (by omega) (by simp) (by go_simp)).mono ?_
 rintro e w2 ⟨rfl,hb2⟩
 have RB1:RB (((w.alloc (E #[a0,a1,a2,a3,a4,D (some ⟨b,o,y⟩) rs.length c] 30)).alloc (E #[l q 0,l q 0,l q 0] 169)).alloc (E #[z x.loc,z x.device,z x.set,z x.signal] 62)) (w.heap.size+1):=⟨by simp,by go_simp,by go_simp,by go_simp,by go_simp,by go_simp,by go_simp⟩;have RB2:=RB1.below hb2 (by simp);have hs2:=hb2.size;simp only [World.size_alloc] at hs2;have hW2:=hbC.trans (hb2.mono (by simp;omega));obtain ⟨hc2,hf2⟩:=zcv hb2;simp only [World.size_alloc] at hc2 hf2;have hH:=H.out.mono (I _) (hW2.mono hB);have hlt:=(ze9 (fun r:RelayM=>same r.name x.device) rs).2;generalize idx (fun r:RelayM=>same r.name x.device) rs=dv at *;clear hr q52 q0 q1 q2 q3 hb2;go_wp2_with fail
 refine (zh8 a0 a1 a2 a3 a4 (some ⟨b,o,y⟩) c B rs (k:Int) dv x w2 (by omega) hH hn hlt).mono ?_
 rintro e w3 ⟨rfl,hb3⟩
 obtain ⟨-,r0,r1,r2,z0,z1,z2⟩:=RB2.below hb3 RB2.lt;have hW3:=hW2.trans (hb3.mono (by omega));clear hc2 hf2 RB1 RB2 hb3;go_wp2;refine bodyPost_ret (v := .tuple #[F #[l q (zbh rs (k:Int) dv x).1,l q (zbh rs (k:Int) dv x).2.1,l q (zbh rs (k:Int) dv x).2.2.1],l q (zbh rs (k:Int) dv x).2.2.2]) (by simp [results,Tryz.results76,go_sem,r0,r1,r2]) rfl ⟨by rw [HE.out],?_⟩
 exact zbb hW3 _ (by omega) _ _ _
end Go.Proofs.YtjkimieapfbhbaaGreatDoor
namespace Go.Proofs.YtjkimieapfbhbaaGreatDoor
open Go.RowKit
attribute [local go_sem ↓] zav zaw
attribute [local go_sem] zay zaz
structure SB (W:World) (g:Nat) (v:Value) (x:SubM):Prop where
 lt:g+1+1<W.heap.size
 c5:W.cell? ⟨g,5,y⟩=some v
 s2:W.cell? ⟨g+1+1,2,y⟩=some (z x.set)
 s3:W.cell? ⟨g+1+1,3,y⟩=some (z x.signal)
 rb:RB W (g+1)
theorem SB.below {W W':World} {g:Nat} {v:Value} {x:SubM} (h:SB W g v x) (hb:Below W.heap.size W W'):SB W' g v x:=by
 have h1:=h.lt;have h2:=hb.size
 exact ⟨by omega,(hb.cell (p:=⟨g,5,y⟩) (by show g<_;omega)).trans h.c5,(hb.cell (p:=⟨g+1+1,2,y⟩) (by show g+1+1<_;omega)).trans h.s2,
  (hb.cell (p:=⟨g+1+1,3,y⟩) (by show g+1+1<_;omega)).trans h.s3,h.rb.below hb (by omega)⟩
theorem zkg (a0 a1 a2 a3 a4:Value) (A:Option Addr) (c B:Nat) (rs:List RelayM) (relay sub:Int) (w:World) (hB:B≤w.heap.size) (h:Conf w B a0 a1 a2 a3 a4 A c rs) (hn:zaH rs) :
 Calls G 67 #[F #[a0,a1,a2,a3,a4,D A rs.length c],l q relay,l q sub] w (zeb (zbi rs relay sub) w):=by
 have hbA:=zaa w (E #[a0,a1,a2,a3,a4,D A rs.length c] 30);have hbB:=hbA.alloc (by simp) (E #[l q 0,l q 0,l q 0] 160);have H:=Hd h;have hr:=h.rows;clear h
 by_cases h0:relay<0
 · have e0:zbi rs relay sub=(0,0,0,1):=by simp [zbi,h0]
   have HE:=Hd e0
   clear e0 hr
   go_enter Tryz.func67,Tryz.ntmps67
   go_wp2
   refine bodyPost_ret (v := .tuple #[F #[l q 0,l q 0,l q 0],l q 1]) (by simp [results,Tryz.results67,go_sem]) rfl ⟨by rw [HE.out],?_⟩
   exact hbB
 obtain ⟨k,rfl⟩:=Int.eq_ofNat_of_zero_le (by omega:0≤relay)
 by_cases hk:k<rs.length
 case neg =>
  have e0:zbi rs (k:Int) sub=(0,0,0,1):=by simp [zbi,K (Nat.le_of_not_lt hk)]
  have HE:=Hd e0;have hk':(rs.length:Int)≤(k:Int):=by omega
  clear e0 hr;go_enter Tryz.func67,Tryz.ntmps67;go_wp2;refine bodyPost_ret (v := .tuple #[F #[l q 0,l q 0,l q 0],l q 1]) (by simp [results,Tryz.results67,go_sem]) rfl ⟨by rw [HE.out],?_⟩
  exact hbB
 obtain ⟨b,o,cs,r,rfl,hbB',hx,hR,hbx,hrow,hat⟩:=zcQ hr hk;have hb':b<w.heap.size:=by omega
 obtain ⟨c52,h52,A2,k2,e2,l2,m2,R2⟩:=hR.subs
 cases e2
 have q52:w.cell? ⟨b,o+k*53+52,y⟩=some (D A2 r.subs.length k2):=hat 52 _ h52
 by_cases h1:sub<0
 · have e0:zbi rs (k:Int) sub=(0,0,0,1):=by simp [zbi,hx,h1]
   have HE:=Hd e0
   clear e0 hr hx hat hrow hR
   go_enter Tryz.func67,Tryz.ntmps67
   go_wp2
   refine bodyPost_ret (v := .tuple #[F #[l q 0,l q 0,l q 0],l q 1]) (by simp [results,Tryz.results67,go_sem]) rfl ⟨by rw [HE.out],?_⟩
   exact hbB
 obtain ⟨m,rfl⟩:=Int.eq_ofNat_of_zero_le (by omega:0≤sub)
 by_cases hm:m<r.subs.length
 case neg =>
  have e0:zbi rs (k:Int) (m:Int)=(0,0,0,1):=by simp [zbi,hx,K (Nat.le_of_not_lt hm)]
  have HE:=Hd e0;have hm':(r.subs.length:Int)≤(m:Int):=by omega
  clear e0 hr hx hat hrow hR;go_enter Tryz.func67,Tryz.ntmps67;go_wp2;refine bodyPost_ret (v := .tuple #[F #[l q 0,l q 0,l q 0],l q 1]) (by simp [results,Tryz.results67,go_sem]) rfl ⟨by rw [HE.out],?_⟩
  exact hbB
 obtain ⟨b2,o2,ds,x,rfl,hbb,hsx,-,⟨rfl,-⟩,hat2⟩:=R2.at_ hm;have q0:w.cell? ⟨b2,o2+m*4,y⟩=some (z x.loc):=hat2 0 _ rfl;have q1:w.cell? ⟨b2,o2+m*4+1,y⟩=some (z x.device):=hat2 1 _ rfl;have q2:w.cell? ⟨b2,o2+m*4+2,y⟩=some (z x.set):=hat2 2 _ rfl;have q3:w.cell? ⟨b2,o2+m*4+3,y⟩=some (z x.signal):=hat2 3 _ rfl;have hb2':b2<w.heap.size:=by omega
 have e0:zbi rs (k:Int) (m:Int)=zbh rs (k:Int) (idx (fun r=>same r.name x.device) rs) x:=by simp [zbi,hx,hsx,show ¬ ((m:Int)<0) by omega,show ¬ ((k:Int)<0) by omega]
 have HE:=Hd e0;have hbC:=hbB.alloc (by simp;omega) (E #[z x.loc,z x.device,z x.set,z x.signal] 62);clear e0 hx hat hrow hR hsx hat2 R2 hbx h52;go_enter Tryz.func67,Tryz.ntmps67;go_wp2_with fail
 have hn20:=hn.1;have S1:SB (((w.alloc (E #[a0,a1,a2,a3,a4,D (some ⟨b,o,y⟩) rs.length c] 30)).alloc (E #[l q 0,l q 0,l q 0] 160)).alloc (E #[z x.loc,z x.device,z x.set,z x.signal] 62)) w.heap.size (D (some ⟨b,o,y⟩) rs.length c) x:=⟨by simp,by go_simp,by go_simp,by go_simp,⟨by simp,by go_simp,by go_simp,by go_simp,by go_simp,by go_simp,by go_simp⟩⟩;refine (zi8 a0 a1 a2 a3 a4 (some ⟨b,o,y⟩) c B rs x.device _ (by simp;omega) (H.out.mono (I _) (hbC.mono hB)) (by omega)).mono ?_
 rintro e w2 ⟨rfl,hb2⟩
 have S2:=S1.below hb2;have hW2:=hbC.trans (hb2.mono (by simp;omega));have hs2:=hW2.size;have hlt:=ze9 (fun r:RelayM=>same r.name x.device) rs;generalize idx (fun r:RelayM=>same r.name x.device) rs=dv at *;have hr2:=hr.mono RelayC.mono (I _) (hW2.mono hB);clear hr q52 q0 q1 q2 q3 hb2 S1 hbA hbB hbC
 by_cases hd0:dv<0
 · obtain ⟨-,-,-,-,-,r0,r1,r2,z0,z1,z2⟩:=S2
   have e0:zbh rs (k:Int) dv x=(0,0,0,9):=by simp [zbh,hd0]
   have HE2:=Hd e0
   clear e0
   go_wp2
   refine bodyPost_ret (v := .tuple #[F #[l q 0,l q 0,l q 0],l q 9]) (by simp [results,Tryz.results67,go_sem,r0,r1,r2]) rfl ⟨by rw [HE.out,HE2.out],?_⟩
   exact zbb hW2 _ (by omega) _ _ _
 by_cases hdk:dv=(k:Int)
 · obtain ⟨-,-,-,-,-,r0,r1,r2,z0,z1,z2⟩:=S2
   have e0:zbh rs (k:Int) dv x=(0,0,0,12):=by simp [zbh,hdk]
   have HE2:=Hd e0
   subst hdk
   clear e0
   go_wp2
   refine bodyPost_ret (v := .tuple #[F #[l q 0,l q 0,l q 0],l q 12]) (by simp [results,Tryz.results67,go_sem,r0,r1,r2]) rfl ⟨by rw [HE.out,HE2.out],?_⟩
   exact zbb hW2 _ (by omega) _ _ _
 obtain ⟨d,rfl⟩:=Int.eq_ofNat_of_zero_le (by omega:0≤dv);have hdl:d<rs.length:=by omega
 obtain ⟨b',o',ds',rd,hA,hbd,hxd,hRd,hbxd,hrowd,hatd⟩:=zcQ hr2 hdl
 cases hA
 have bd:((d:Int) == (k:Int))=false:=by simpa using hdk
 have hsm:rd.Small:=hn.2 rd (List.mem_of_getElem? hxd);have hsl:=hsm.sets;have hpl:=hsm.pubs;have hd1:(0:Int)≤(d:Int):=by omega
 have hd2:(d:Int)<(rs.length:Int):=by omega
 have HR:=Hd hRd;have HXD:=Hd hxd;obtain ⟨c50,h50,A3,k3,e3,l3,m3,R3⟩:=hRd.sets
 cases e3
 have C1:=fun W' (hb:Below w2.heap.size w2 W')=>zij ds' rd B x.set W' (by have:=hb.size;omega) (RelayC.mono _ _ _ _ _ _ (I _) (hb.mono (by omega)) hRd) (by omega)
 have HC1:=Hd C1;have hc5:=S2.c5;have hss2:=S2.s2;have hBw:B≤w2.heap.size:=by omega
 clear hxd hRd hr2 hd0 C1;go_wp2
 go_region_held3 (fun w'=>w'.cell? ⟨w.heap.size,5,y⟩=some (D (some ⟨b,o,y⟩) rs.length c)∧zbG w' b (o+d*53) 53=some ds'∧w'.cell? ⟨w.heap.size+1+1,2,y⟩=some (z x.set)) (go_keep)
  (first
   | ((go_at_call 66;refine (HC1.out _ (zag (Below.refl _ _) 1)).mono ?_;rintro e w3 ⟨rfl,hb3⟩;have hb3':=za8 (a:=w2) (B':=w2.heap.size) hb3 rfl rfl rfl rfl (I _);have S3:=S2.below hb3';have p1:=S3.c5;have p2:=S3.s2;have p3:=zal hrowd hb3' (L hbd hBw))))
 have hW3:=hW2.trans (hb3'.mono hs2);have hs3:=hW3.size;clear hb3 HC1
 rcases zba (fun d:ByteArray × List ByteArray=>same d.1 x.set) rd.sets with ⟨hi,-⟩ | ⟨si,sd,hi,hsd,-,-⟩
 · obtain ⟨-,-,-,-,-,r0,r1,r2,z0,z1,z2⟩:=S3
   have e0:zbh rs (k:Int) (d:Int) x=(0,0,0,9):=by simp [zbh,HXD.out,hi,hdk]
   have HE2:=Hd e0
   rw [hi]
   clear e0 hi HXD
   go_wp2
   refine bodyPost_ret (v := .tuple #[F #[l q 0,l q 0,l q 0],l q 9]) (by simp [results,Tryz.results67,go_sem,r0,r1,r2]) rfl ⟨by rw [HE.out,HE2.out],?_⟩
   exact zbb hW3 _ (by omega) _ _ _
 · have hsi:si<rd.sets.length:=(List.getElem?_eq_some_iff.1 hsd).1
   rw [hi]
   have HI:=Hd hi
   have HD:=Hd hsd
   have hi0:(0:Int)≤(si:Int):=by omega
   have hi1:(si:Int)<(rd.sets.length:Int):=by omega
   have C2:=fun W' (hb:Below w3.heap.size w3 W')=>zeY ds' rd B x.set W' (by have:=hb.size;omega) (RelayC.mono _ _ _ _ _ _ (I _) ((hb3'.mono hBw).trans (hb.mono (by omega))) HR.out) (by omega)
   have HC2:=Hd C2
   have hbw3:b<w3.heap.size:=by omega
   clear hi hc5 hss2 C2
   go_wp2
   go_region_held3 (fun w'=>w'.cell? ⟨w.heap.size,5,y⟩=some (D (some ⟨b,o,y⟩) rs.length c)∧zbG w' b (o+d*53) 53=some ds'∧w'.cell? ⟨w.heap.size+1+1,2,y⟩=some (z x.set)) (go_keep)
    (first
     | ((go_at_call 90;refine (HC2.out _ (zag (Below.refl _ _) 1)).mono ?_;rintro e w4 ⟨rfl,hb4⟩;have hb4':=za8 (a:=w3) (B':=w3.heap.size) hb4 rfl rfl rfl rfl (I _);have S4:=S3.below hb4';have t1:=S4.c5;have t2:=S4.s2;have t3:=zal p3 hb4' hbw3)))
   have hW4:=hW3.trans (hb4'.mono hs3)
   have hs4:=hW4.size
   have hw24:=(hb3'.mono hBw).trans (hb4'.mono (by omega))
   clear hb4 HC2
   cases hh:has (fun r=>same r x.set) rd.pubs with
   | false =>
     obtain ⟨-,-,-,-,-,r0,r1,r2,z0,z1,z2⟩:=S4
     have e0:zbh rs (k:Int) (d:Int) x=(0,0,0,11):=by simp [zbh,HXD.out,HI.out,hdk,hh,show ¬ ((si:Int)<0) by omega,show ¬ ((d:Int)<0) by omega]
     have HE2:=Hd e0
     clear e0 hh HXD HI HD hsd
     go_wp2
     refine bodyPost_ret (v := .tuple #[F #[l q 0,l q 0,l q 0],l q 11]) (by simp [results,Tryz.results67,go_sem,r0,r1,r2]) rfl ⟨by rw [HE.out,HE2.out],?_⟩
     exact zbb hW4 _ (by omega) _ _ _
   | true =>
     obtain ⟨b4,o4,ds4,sd',rfl,hbb4,hsd',-,⟨c5,rfl,-,A5,k5,e5,l5,m5,R5⟩,hat4⟩:=(R3.mono SetC.mono (I _) hw24).at_ hsi
     obtain rfl:sd'=sd:=by rw [hsd'] at hsd;exact Option.some.inj hsd
     cases e5
     have hc1:=hat4 1 _ rfl
     have hcs:w4.cell? ⟨b,o+d*53+50,y⟩=some (D (some ⟨b4,o4,y⟩) rd.sets.length k3):=(zcL t3).2 50 _ h50
     have hm5:sd'.2.length≤9223372036854775807:=by unfold maxLen at m5;omega
     have HH:=Hd hh
     have hs3':=S4.s3
     clear hsd hsd' hat4 hh R3 h50 HR p1 p2 p3 t3 t2 S2 hrowd hatd
     go_wp2
     go_quiet ((go_at_call 50;exact zfh (zcd A5 k5 B sd'.2 x.signal _ R5 hm5)))
     obtain ⟨-,-,-,-,-,r0,r1,r2,z0,z1,z2⟩:=S4
     rcases zba (fun s:ByteArray=>same s x.signal) sd'.2 with ⟨hj,-⟩ | ⟨j,sg,hj,hsg,-,-⟩
     · have e0:zbh rs (k:Int) (d:Int) x=(0,0,0,9):=by simp [zbh,HXD.out,HI.out,hdk,HH.out,HD.out,hj,show ¬ ((si:Int)<0) by omega,show ¬ ((d:Int)<0) by omega]
       have HE2:=Hd e0
       rw [hj]
       clear e0 hj HXD HI HD HH
       go_wp2
       refine bodyPost_ret (v := .tuple #[F #[l q 0,l q 0,l q 0],l q 9]) (by simp [results,Tryz.results67,go_sem,r0,r1,r2]) rfl ⟨by rw [HE.out,HE2.out],?_⟩
       exact zbb (zag hW4 _) _ (by omega) _ _ _
     · have e0:zbh rs (k:Int) (d:Int) x=((d:Int),(si:Int),(j:Int),0):=by simp [zbh,HXD.out,HI.out,hdk,HH.out,HD.out,hj,show ¬ ((si:Int)<0) by omega,show ¬ ((d:Int)<0) by omega,show ¬ ((j:Int)<0) by omega]
       have HE2:=Hd e0
       rw [hj]
       clear e0 hj HXD HI HD HH
       go_wp2
       refine bodyPost_ret (v := .tuple #[F #[l q d,l q si,l q j],l q 0]) (by simp [results,Tryz.results67,go_sem,r0,r1,r2]) rfl ⟨by rw [HE.out,HE2.out],?_⟩
       exact zbb (zag hW4 _) _ (by omega) _ _ _
end Go.Proofs.YtjkimieapfbhbaaGreatDoor
namespace Go.Proofs.YtjkimieapfbhbaaGreatDoor
open Go.RowKit
attribute [local go_sem ↓] zav zaw
attribute [local go_sem] zay zaz
def devF (rs:List RelayM) (k:Nat) (s:ByteArray):Option Value:=((rs.take k).findIdx? fun r=>same r.name s).map fun (i:Nat)=>l q (i:Int)
theorem zjE (rs:List RelayM):devF rs 0=fun _=>y:=by funext s;simp [devF]
theorem zgr (rs:List RelayM) (k:Nat) (x:RelayM) (hx:rs[k]? = some x) (s:ByteArray):devF rs (k+1) s=match devF rs k s with
 | some v=>some v
 | Option.none=>if same x.name s then some (l q (k:Int)) else y:=by
 have hk:k<rs.length:=(List.getElem?_eq_some_iff.1 hx).1;have ht:rs.take (k+1)=rs.take k++[x]:=by rw [List.take_add_one,hx];rfl
 unfold devF;rw [ht,List.findIdx?_append]
 cases h:(rs.take k).findIdx? fun r=>same r.name s with
 | some i=>simp
 | none =>
   simp only [Option.none_or,List.length_take]
   cases hs:same x.name s with
   | true=>simp [List.findIdx?_cons,hs,Nat.min_eq_left (Nat.le_of_lt hk)]
   | false=>simp [List.findIdx?_cons,hs]
theorem ziH {rs:List RelayM} {k:Nat} {x:RelayM} (hx:rs[k]? = some x) {v:Value} (h:devF rs k x.name=some v):devF rs (k+1)=devF rs k:=by
 funext s
 rw [zgr rs k x hx]
 cases hd:devF rs k s with
 | some u=>rfl
 | none =>
   cases hs:same x.name s with
   | false=>simp
   | true =>
     have e:(fun r:RelayM=>same r.name s)=fun r=>same r.name x.name:=by
      funext r;unfold same;rw [zdD.1 hs]
     exfalso
     unfold devF at hd h
     rw [e] at hd
     rw [hd] at h
     cases h
theorem zk0 {rs:List RelayM} {k:Nat} {x:RelayM} (hx:rs[k]? = some x) (h:devF rs k x.name=y):devF rs (k+1)=putS (devF rs k) x.name (l q (k:Int)):=by
 funext s
 rw [zgr rs k x hx];unfold putS
 by_cases hs:s.toList=x.name.toList
 · rw [if_pos hs]
   have e:(fun r:RelayM=>same r.name s)=fun r=>same r.name x.name:=by
    funext r;unfold same;rw [hs]
   have hd:devF rs k s=y:=by unfold devF at h ⊢;rw [e];exact h
   rw [hd]
   simp [zdD.2 hs.symm]
 · rw [if_neg hs]
   cases hd:devF rs k s with
   | some u=>rfl
   | none =>
     have:same x.name s=false:=by
      cases h':same x.name s with
      | false=>rfl
      | true=>exact absurd (zdD.1 h').symm hs
     simp [this]
theorem zk1 {rs:List RelayM} {k:Nat} {s:ByteArray} {v:Value} (h:devF rs k s=some v):∃ i:Nat,v = l q (i:Int)∧i<k:=by
 unfold devF at h;obtain ⟨i,hi,rfl⟩:=Option.map_eq_some_iff.1 h;refine ⟨i,rfl,?_⟩
 rw [List.findIdx?_eq_some_iff_getElem] at hi;obtain ⟨hl,_⟩:=hi;simp at hl;omega
theorem zkZ (rs:List RelayM) (s:ByteArray):devF rs rs.length s=if idx (fun r=>same r.name s) rs<0 then y else some (l q (idx (fun r=>same r.name s) rs)):=by
 unfold devF idx;rw [List.take_length]
 cases h:rs.findIdx? fun r=>same r.name s with
 | none=>simp
 | some i=>simp
def Dev (P:Program) (g:Nat) (W1:World) (rs:List RelayM) (i:Value) (wr:World):Prop:=
 ∃ k:Nat,k≤rs.length∧i = l q k∧MapS P 9 3 wr (g+1) k (devF rs k)∧Below (g+1) W1 wr
theorem zkL (w:World):(zeroValue 3).run G w = .ok (l q 0) w:=by kernel_rfl
def RetDev (rs:List RelayM) (w:World) (e:Ending) (w':World):Prop:=∃ b,e = .returned (.map (some b))∧w.heap.size≤b∧MapS G 9 3 w' b rs.length (devF rs rs.length)∧Below w.heap.size w w'
theorem zhm (a0 a1 a2 a3 a4:Value) (A:Option Addr) (c B:Nat) (rs:List RelayM) (w:World) (hB:B≤w.heap.size) (h:Conf w B a0 a1 a2 a3 a4 A c rs) (hn:rs.length≤20) :
 Calls G 103 #[F #[a0,a1,a2,a3,a4,D A rs.length c]] w (RetDev rs w):=by
 have hbox:=zaa w (E #[a0,a1,a2,a3,a4,D A rs.length c] 30);have hr:=h.rows;clear h;have hmm := @run_makeMap G;go_enter Tryz.func103,Tryz.ntmps103;go_wp2;clear hmm
 go_loopw [12] (Dev G w.heap.size (w.alloc (E #[a0,a1,a2,a3,a4,D A rs.length c] 30)) rs) (fun i _=>rs.length-(intOf i).toNat)
 case atStart=>exact ⟨0,J _,rfl,by rw [zjE];simpa using MapS.made G 9 3 (w.alloc (E #[a0,a1,a2,a3,a4,D A rs.length c] 30)),(Below.refl _ _).alloc (by simp) _⟩
 case round =>
  obtain ⟨k,hk,rfl,hmap,hbel⟩:=hrel;have hbw:Below w.heap.size w wr:=hbox.trans (hbel.mono (by omega));have hs:=hmap.block
  by_cases hlt:k<rs.length
  · obtain ⟨b,o,cs,x,rfl,hbB,hx,hR,hbx,hrow,-⟩:=zcQ (hr.mono RelayC.mono (I _) (hbw.mono hB)) hlt
    have hnm:=hR.name
    have HX:=Hd hx
    have hml:=hmap.alloc (E cs.toArray 60)
    have hlk:=hml.look (t := 195) Tryz.underlying9 Tryz.underlying195 (zkL _) hR.nameLen true
    have hlen:=hR.nameLen
    clear hx hr hR
    cases hd:devF rs k x.name with
    | some v =>
      rw [hd] at hlk
      simp only [if_true,Option.getD_some,Option.isSome_some] at hlk
      have HD:=Hd hd
      have HM:=Hd hml
      clear hd hmap hml
      obtain ⟨i,rfl,-⟩:=zk1 HD.out
      go_wp2
      go_roundw
      case rel=>exact ⟨k+1,by omega,by go_num,by rw [ziH HX.out HD.out];exact HM.out.more (by omega),hbel.alloc (by omega) _⟩
      case measure=>simp [intOf];omega
    | none =>
      rw [hd] at hlk
      simp only [if_true,Option.getD_none,Option.isSome_none] at hlk
      obtain ⟨w',hup,hm',hg⟩:=hml.store (t := 195) Tryz.underlying9 Tryz.underlying195 (by unfold maxLen;omega) hlen (plainElem_int Tryz.underlying3 (a:=(k:Int)) (WalkArith.wf_i64 (by omega)))
      have HD:=Hd hd
      have HM:=Hd hm'
      have HB:=Hd ((hbel.alloc (by omega) (E cs.toArray 60)).grown hg (by simp;omega) (fun j hj=>by cases hj;exact I _))
      clear hd hmap hml hm' hg
      go_wp2
      go_roundw
      case rel=>exact ⟨k+1,by omega,by go_num,by rw [zk0 HX.out HD.out];exact HM.out,HB.out⟩
      case measure=>simp [intOf];omega
  · go_wp2
    go_ret
    obtain rfl:k=rs.length:=by omega
    exact ⟨_,rfl,by omega,hmap,hbw⟩
end Go.Proofs.YtjkimieapfbhbaaGreatDoor
namespace Go.Proofs.YtjkimieapfbhbaaGreatDoor
open Go.RowKit
theorem zcS {a b:Bool} (h:a=b):Ending.returned (.bool a) = .returned (.bool b):=by rw [h]
theorem zbQ (w:World):(zeroValue 4).run G w = .ok (.bool false) w:=by kernel_rfl
def Rep (b:Nat) (W1:World) (xs:List ByteArray) (i:Value) (wr:World):Prop:=
 ∃ k:Nat,k≤xs.length∧i = l q k∧zit xs k∧MapS G 9 4 wr b k (zcb xs k)∧Below b W1 wr
theorem zgM (A:Option Addr) (c B:Nat) (xs:List ByteArray) (w:World) (hB:B≤w.heap.size) (hr:Rws StrC 1 w B A xs.length xs) (hn:xs.length≤100000) :
 Calls G 143 #[D A xs.length c] w (zaG (dupB xs) w):=by
 have hmm := @run_makeMap G;go_enter Tryz.func143,Tryz.ntmps143;go_wp2;clear hmm
 go_loopw [9] (Rep w.heap.size w xs) (fun i _=>xs.length-(intOf i).toNat)
 case atStart=>exact ⟨0,J _,rfl,zfc _,by rw [zbu];exact MapS.made G 9 4 w,(Below.refl _ _).alloc (I _) _⟩
 case round =>
  obtain ⟨k,hk,rfl,hno,hmap,hbel⟩:=hrel;have HN:=Hd hno;clear hno
  by_cases hlt:k<xs.length
  · obtain ⟨b,o,x,rfl,hb,hx,hs,hc⟩:=hr.strAt hlt
    have hc':wr.cell? ⟨b,o+k,y⟩=some (z x):=(hbel.cell (p:=⟨b,o+k,y⟩) (by show b<w.heap.size;omega)).trans hc
    have HX:=Hd hx
    have hlk:=hmap.look (t := 233) Tryz.underlying9 Tryz.underlying233 (zbQ _) hs false
    rw [zc4] at hlk
    clear hx hc hr
    cases hse:seen xs k x with
    | true =>
      rw [hse] at hlk
      simp only [Bool.false_eq_true,if_false] at hlk
      have HS:=Hd hse
      clear hse hmap
      go_wp2
      go_ret
      exact ⟨zcS (zjI HX.out HS.out).symm,hbel⟩
    | false =>
      rw [hse] at hlk
      simp only [Bool.false_eq_true,if_false] at hlk
      obtain ⟨w',hup,hm',hg⟩:=hmap.store (t := 233) Tryz.underlying9 Tryz.underlying233 (by unfold maxLen;omega) hs (plainElem_bool Tryz.underlying4 true)
      have HS:=Hd hse
      have HM:=Hd hm'
      have HB:=Hd (hbel.grown hg (by have:=hmap.block;omega) (fun j hj=>by cases hj;exact I _))
      clear hse hmap hm' hg
      go_wp2
      go_roundw
      case rel=>exact ⟨k+1,by omega,by go_num,zfb HN.out HX.out HS.out,by rw [zbt HX.out];exact HM.out,HB.out⟩
      case measure=>simp [intOf];omega
  · go_wp2
    go_ret
    obtain rfl:k=xs.length:=by omega
    exact ⟨zcS (zlI HN.out).symm,hbel⟩
theorem zbZ {P:Program} {f:FuncId} {args:Array Value} {w:World} {a n:Nat} {v:Value}
 (h:Calls P f args (w.drewN (a+n)) fun e w'=>e = .returned v∧w.drewN (a+n)=w') :
 Calls P f args (w.drewN (a+n)) fun e w''=>e = .returned v∧∃ m,w''=w.drewN (a+m):=
 h.mono fun _ _ ⟨he,hm⟩=>⟨he,n,hm.symm⟩
theorem zik {α:Type} {R:World→Nat→List Value→α→Prop} {size B n:Nat} {w:World} {A:Option Addr} {xs:List α} (h:Rws R size w B A n xs) (k:Nat) (hk:k≤n):Rws R size w B A k (xs.take k):=by
 refine ⟨by rw [List.length_take,h.1];omega,fun hpos => ?_⟩
 obtain ⟨b,o,e,hb,hr⟩:=h.2 (by omega);refine ⟨b,o,e,hb,fun j x hx=>hr j x ?_⟩
 rw [List.getElem?_take] at hx
 split at hx
 · exact hx
 · cases hx
theorem zkD (A:Option Addr) (c B:Nat) (xs:List ByteArray) (w:World) (hr:Rws StrC 1 w B A xs.length xs) (hc:xs.length≤c) (hm:c≤maxLen) :
 Calls G 63 #[D A xs.length c] w fun e w'=>e = .returned (.bool (dupB xs))∧∃ d,w'=w.drewN d:=by
 unfold maxLen at hm;go_enter Tryz.func63,Tryz.ntmps63;go_wp2
 go_loopw [3] (fun i wr=>∃ k:Nat,k≤xs.length∧i = l q k∧zit xs k∧∃ d,wr=w.drewN d) (fun i _=>xs.length-(intOf i).toNat)
 case atStart=>exact ⟨0,J _,rfl,zfc _,0,rfl⟩
 case round =>
  obtain ⟨k,hk,rfl,hno,d,rfl⟩:=hrel;have HN:=Hd hno;clear hno
  by_cases hlt:k<xs.length
  · obtain ⟨b,o,x,rfl,hb,hx,hs,hcl⟩:=hr.strAt hlt
    have HX:=Hd hx
    have hl:(xs.take k).length=k:=by rw [List.length_take];omega
    have C:=fun W (hW:Rws StrC 1 W B (some ⟨b,o,y⟩) (xs.take k).length (xs.take k))=>zcd (some ⟨b,o,y⟩) c B (xs.take k) x W hW (by omega)
    have R:=zik hr k hk
    rw [hl] at C
    have hsi:=zdE xs k x
    generalize idx (fun r=>same r x) (xs.take k)=iv at *
    have HC:=Hd C
    have HR:=Hd R
    have HI:=Hd hsi
    have hk0:(0:Int)≤(k:Int):=by omega
    have hkn:(k:Int)<(xs.length:Int):=by omega
    have hkc:(k:Int)≤(c:Int):=by omega
    clear hx C R hl hr hsi
    go_wp2
    go_quiet ((go_at_call 50;exact zbZ (HC.out _ HR.out)))
    cases hse:seen xs k x with
    | true =>
      have h0:0≤iv:=by have:=HI.out;rw [hse] at this;simpa using this.symm
      have HS:=Hd hse
      clear hse
      go_wp2
      go_ret
      exact ⟨zcS (zjI HX.out HS.out).symm,_,World.drewN_drewN _ _ _⟩
    | false =>
      have h0:iv<0:=by have:=HI.out;rw [hse] at this;simpa using this.symm
      have HS:=Hd hse
      clear hse
      go_wp2
      go_roundw
      case rel=>exact ⟨k+1,by omega,by go_num,zfb HN.out HX.out HS.out,_,rfl⟩
      case measure=>simp [intOf];omega
  · go_wp2
    go_ret
    obtain rfl:k=xs.length:=by omega
    exact ⟨zcS (zlI HN.out).symm,d,rfl⟩
theorem zjC (A:Option Addr) (c n:Nat) (cells:List Value) (w:World) (hs:Src w 1 A n cells) (hA:A=y→n=0) (h1:∀ u∈cells,u.oneCell'=true) (hn:n≤100000) :
 Calls G 144 #[D A n c] w (RetRow 9 1 n cells w):=by
 obtain ⟨i0,hi,hz0,hz1,hz2⟩:=info_parts zbn;have hnil:=fun wx=>Lib.run_eql_slice_nil (P := G) wx 22 9 A n c 0 0 Tryz.underlying22
 cases A with
 | none =>
   obtain rfl:=hA rfl
   have hc:cells=[]:=List.eq_nil_of_length_eq_zero (by simpa using hs.1)
   subst hc
   go_enter Tryz.func144,Tryz.ntmps144
   go_wp2
   go_ret
   exact RetRow.mk (World.ownsRow_nil _ w.heap.size _ _) (I _) (Below.refl _ _)
 | some ad =>
   have hs2:Src (w.alloc (E #[] 9)) 1 (some ad) n cells:=⟨hs.1,fun hpos=>by
    obtain ⟨ad',e,hcell⟩:=hs.2 hpos
    exact ⟨ad',e,fun j u hu=>by rw [World.cell?_alloc_lt w _ _ (block_lt_of_cell (hcell j u hu))];exact hcell j u hu⟩⟩
   have hown:(w.alloc (E #[] 9)).ownsRow w.heap.size 9 1 (D (some ⟨w.heap.size,0,y⟩) 0 0) 0 []:=World.ownsRow_made w #[] 0 (I _) (J _) rfl
   have hb:=zaa w (E #[] 9)
   have HS:=Hd hs2
   have HO:=Hd hown
   clear hs hs2 hown hA
   go_enter Tryz.func144,Tryz.ntmps144
   go_wp2_with (first
    | (at_builtin;refine zbV _ _ 22 rfl rfl Tryz.underlying22 hi hz0 hz1 hz2 rfl (by decide) rfl HO.out hb rfl HS.out h1 (by unfold maxLen;omega) (by omega) (by simp) ?_;intro v' w' hown' hbel' _))
   go_ret
   exact RetRow.mk (by simpa using hown') (I _) hbel'
end Go.Proofs.YtjkimieapfbhbaaGreatDoor
