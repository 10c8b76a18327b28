/-
 The look-up of a device by name.
-/
import Derived.Test.YtjkimieapfbhbaaGreatDoorKDup
import Derived.Deep.DeepCutAuto
import Derived.Test.YtjkimieapfbhbaaGreatDoorKOwn
import Derived.Test.YtjkimieapfbhbaaGreatDoorKRSc
open Option renaming none → l
open Go.Value renaming string → u, int → D, slice → G
open Go.IntKind renaming i64 → E
open Go.Obj renaming cells → F
open List renaming mem_of_getElem? → I, getElem?_append_left → K, getElem?_append_right → Q, getElem?_map → R, length_append → S
open Nat renaming le_refl → J, zero_le → O, not_lt_zero → P
namespace Go.Proofs.YtjkimieapfbhbaaGreatDoor
open Go.RowKit
attribute [local go_sem ↓] zav zaw
attribute [local go_sem] zay zaz
theorem ziU (b n:Nat) (rs:List RelayM) (s:ByteArray) (w:World) (h:MapS Tryz.prog 9 3 w b n (devF rs rs.length)) (hs:s.size≤maxLen) :
 Calls Tryz.prog 106 #[.map (some b),u s] w fun e w'=>e = .returned (D E (idx (fun r=>same r.name s) rs))∧w=w':=by
 have hlk:=h.look (t := 195) Tryz.underlying9 Tryz.underlying195 (zkL _) hs true;rw [zkZ] at hlk;clear h
 rcases zba (fun r:RelayM=>same r.name s) rs with ⟨hi,-⟩ | ⟨k,x,hi,-⟩
 · rw [hi] at hlk ⊢
   simp only [show ((-1:Int)<0)=True by simp,if_true,Option.getD_none,Option.isSome_none] at hlk
   clear hi
   go_enter Tryz.func106,Tryz.ntmps106
   go_wp2
   go_ret
   exact ⟨rfl,rfl⟩
 · rw [hi] at hlk ⊢
   have h0:¬ ((k:Int)<0):=by omega
   simp only [h0,if_true,if_false,Option.getD_some,Option.isSome_some] at hlk
   clear hi
   go_enter Tryz.func106,Tryz.ntmps106
   go_wp2
   go_ret
   exact ⟨rfl,rfl⟩
structure CB (W:World) (g:Nat) (a0 a1 a2 a3 a4 v:Value):Prop where
 lt:g<W.heap.size
 c0:W.cell? ⟨g,0,l⟩=some a0
 c1:W.cell? ⟨g,1,l⟩=some a1
 c2:W.cell? ⟨g,2,l⟩=some a2
 c3:W.cell? ⟨g,3,l⟩=some a3
 c4:W.cell? ⟨g,4,l⟩=some a4
 c5:W.cell? ⟨g,5,l⟩=some v
theorem CB.below {W W':World} {g B:Nat} {a0 a1 a2 a3 a4 v:Value} (h:CB W g a0 a1 a2 a3 a4 v) (hb:Below B W W') (hg:g<B):CB W' g a0 a1 a2 a3 a4 v:=
 ⟨Nat.lt_of_lt_of_le h.lt hb.size,(hb.cell (p:=⟨g,0,l⟩) hg).trans h.c0,(hb.cell (p:=⟨g,1,l⟩) hg).trans h.c1,(hb.cell (p:=⟨g,2,l⟩) hg).trans h.c2,
  (hb.cell (p:=⟨g,3,l⟩) hg).trans h.c3,(hb.cell (p:=⟨g,4,l⟩) hg).trans h.c4,(hb.cell (p:=⟨g,5,l⟩) hg).trans h.c5⟩
theorem CB.new (w:World) (a0 a1 a2 a3 a4 v:Value) (t:TypeId):CB (w.alloc (F #[a0,a1,a2,a3,a4,v] t)) w.heap.size a0 a1 a2 a3 a4 v:=
 ⟨by simp,by go_simp,by go_simp,by go_simp,by go_simp,by go_simp,by go_simp⟩
def PlaceAt (B:Nat) (W2 wo:World) (p:Int × Int × Int × Int) (s13 s14:Value) (wx:World):Prop:=
 ∃ g:Nat,s13 = .pointer (some ⟨g,0,l⟩)∧s14 = D E p.2.2.2∧wx.cell? ⟨g,0,l⟩=some (D E p.1)∧wx.cell? ⟨g,1,l⟩=some (D E p.2.1)∧Below B W2 wx∧Below wo.heap.size wo wx
theorem RB.drew {W:World} {g:Nat} (h:RB W g):RB W.drew g:=⟨h.lt,h.r0,h.r1,h.r2,h.z0,h.z1,h.z2⟩
def RS (w':World) (g h:Nat) (a0 a1 a2 a3 a4 v:Value) (sb:SubM):Prop:=
 w'.cell? ⟨g,0,l⟩=some a0∧w'.cell? ⟨g,1,l⟩=some a1∧w'.cell? ⟨g,2,l⟩=some a2∧w'.cell? ⟨g,3,l⟩=some a3∧w'.cell? ⟨g,4,l⟩=some a4∧w'.cell? ⟨g,5,l⟩=some v ∧
 w'.cell? ⟨h,0,l⟩=some (u sb.loc)∧w'.cell? ⟨h,1,l⟩=some (u sb.device)∧w'.cell? ⟨h,2,l⟩=some (u sb.set)∧w'.cell? ⟨h,3,l⟩=some (u sb.signal)
theorem RS.below {W W':World} {g h B:Nat} {a0 a1 a2 a3 a4 v:Value} {sb:SubM} (hs:RS W g h a0 a1 a2 a3 a4 v sb) (hb:Below B W W') (hg:g<B) (hh:h<B):RS W' g h a0 a1 a2 a3 a4 v sb:=by
 obtain ⟨c0,c1,c2,c3,c4,c5,d0,d1,d2,d3⟩:=hs
 exact ⟨(hb.cell (p:=⟨g,0,l⟩) hg).trans c0,(hb.cell (p:=⟨g,1,l⟩) hg).trans c1,(hb.cell (p:=⟨g,2,l⟩) hg).trans c2,(hb.cell (p:=⟨g,3,l⟩) hg).trans c3,(hb.cell (p:=⟨g,4,l⟩) hg).trans c4,(hb.cell (p:=⟨g,5,l⟩) hg).trans c5,
  (hb.cell (p:=⟨h,0,l⟩) hh).trans d0,(hb.cell (p:=⟨h,1,l⟩) hh).trans d1,(hb.cell (p:=⟨h,2,l⟩) hh).trans d2,(hb.cell (p:=⟨h,3,l⟩) hh).trans d3⟩
theorem RS.set3 {W:World} {g h b:Nat} {a0 a1 a2 a3 a4 v x y z:Value} {sb:SubM} (hs:RS W g h a0 a1 a2 a3 a4 v sb) (hg:g<b) (hh:h<b):RS (((W.setCell ⟨b,0,l⟩ x).setCell ⟨b,1,l⟩ y).setCell ⟨b,2,l⟩ z) g h a0 a1 a2 a3 a4 v sb:=
 hs.below (zbb (Below.refl b W) b (J _) x y z) hg hh
theorem RS.new {wr:World} {g:Nat} {a0 a1 a2 a3 a4 v:Value} {sb:SubM} (h:CB wr g a0 a1 a2 a3 a4 v):RS (wr.alloc (F #[u sb.loc,u sb.device,u sb.set,u sb.signal] 62)) g wr.heap.size a0 a1 a2 a3 a4 v sb:=by
 obtain ⟨hlt,c0,c1,c2,c3,c4,c5⟩:=h.below (zaa wr (F #[u sb.loc,u sb.device,u sb.set,u sb.signal] 62)) h.lt;exact ⟨c0,c1,c2,c3,c4,c5,by go_simp,by go_simp,by go_simp,by go_simp⟩
end Go.Proofs.YtjkimieapfbhbaaGreatDoor
set_option maxRecDepth 100000
set_option maxHeartbeats 8000000
namespace Go.Proofs.YtjkimieapfbhbaaGreatDoor
open Go.RowKit
attribute [local go_sem ↓] zav zaw
attribute [local go_sem] zay zaz
def subK (rs:List RelayM) (i k:Nat):Int:=(zbi rs i k).2.2.2
def oneK (rs:List RelayM) (i:Nat):Int:=match rs[i]? with
 | Option.none=>0
 | some r=>if ownE r≠0 then ownE r else zbI (subK rs i) r.subs.length
def zaY (rs:List RelayM):Nat→Int × Int
 | 0=>(0,0)
 | n+1=>if (zaY rs n).2=0 then (if oneK rs n=0 then (0,0) else ((n:Int),oneK rs n)) else zaY rs n
theorem zef {rs:List RelayM}:∀ {n:Nat},zaN (oneK rs) n→zaY rs n=(0,0)
 | 0,_=>rfl
 | n+1,h=>by
   have:=zef (rs:=rs) (n:=n) fun j hj=>h j (by omega)
   simp [zaY,this,h n (by omega)]
theorem zcH {rs:List RelayM} {k:Nat} (h:zaN (oneK rs) k) (hk:oneK rs k≠0):∀ {n:Nat},k<n→zaY rs n=((k:Int),oneK rs k)
 | 0,hn=>absurd hn (P _)
 | n+1,hn=>by
   rcases Nat.lt_succ_iff_lt_or_eq.1 hn with h' | rfl
   · have:=zcH h hk h'
     simp [zaY,this,hk]
   · simp [zaY,zef h,hk]
theorem zdR {rs:List RelayM} {k:Nat} {r:RelayM} (hr:rs[k]? = some r) (h:ownE r≠0):oneK rs k=ownE r:=by simp [oneK,hr,h]
theorem zhC {rs:List RelayM} {k j:Nat} {r:RelayM} (hr:rs[k]? = some r) (h:ownE r=0) (hz:zaN (subK rs k) j) (hj:j<r.subs.length) (hn:subK rs k j≠0):oneK rs k=subK rs k j:=by
 simp [oneK,hr,h,zbJ hz hn hj]
theorem zlN {rs:List RelayM} {k:Nat} {r:RelayM} (hr:rs[k]? = some r) (h:ownE r=0) (hz:zaN (subK rs k) r.subs.length):oneK rs k=0:=by
 simp [oneK,hr,h,zbp hz]
def zgf (p:Int × Int) (w:World) (e:Ending) (w':World):Prop:=e = .returned (.tuple #[D E p.1,D E p.2])∧Below w.heap.size w w'
theorem zeF {p:Int × Int} {a b:Int} (h:p=(a,b)):Ending.returned (.tuple #[D E a,D E b]) = .returned (.tuple #[D E p.1,D E p.2]):=by rw [h]
def ChO (B:Nat) (W2:World) (rs:List RelayM) (i:Value) (wr:World):Prop:=∃ k:Nat,k≤rs.length∧i = D E k∧zaN (oneK rs) k∧Below B W2 wr
def ChI (B:Nat) (W2:World) (rs:List RelayM) (k lim:Nat) (i:Value) (wr:World):Prop:=∃ m:Nat,m≤lim∧i = D E m∧zaN (subK rs k) m∧Below B W2 wr
theorem zjA (a0 a1 a2 a3 a4:Value) (A:Option Addr) (c B:Nat) (rs:List RelayM) (w:World) (hB:B≤w.heap.size) (h:Conf w B a0 a1 a2 a3 a4 A c rs) (hn:zaH rs) :
 Calls Tryz.prog 70 #[.agg #[a0,a1,a2,a3,a4,G A rs.length c]] w (zgf (zaY rs rs.length) w):=by
 have hbox:=zaa w (F #[a0,a1,a2,a3,a4,G A rs.length c] 30);have CB0:=CB.new w a0 a1 a2 a3 a4 (G A rs.length c) 30;have H:=Hd h;have hr:=h.rows;clear h;have hn20:=hn.1;go_enter Tryz.func70,Tryz.ntmps70;go_wp2_with fail
 refine (zhm a0 a1 a2 a3 a4 A c B rs _ (by simp;omega) (H.out.mono (J _) (hbox.mono hB)) hn20).mono ?_
 rintro e W2 ⟨mb,rfl,hmb,hmap,hb2⟩
 have CB2:=CB0.below hb2 (by simp);have hbw2:=hbox.trans (hb2.mono (by simp));have hs2:=hbw2.size;have hmlt:=hmap.block;have hglt:=CB2.lt;have HM:=Hd hmap;have q5':=CB2.c5;clear hb2 CB0 hbox hmap;go_wp2_with fail
 go_loopw [15] (ChO W2.heap.size W2 rs) (fun i _=>rs.length-(intOf i).toNat)
 case atStart=>exact ⟨0,O _,rfl,zaW _,Below.refl _ _⟩
 case round =>
  obtain ⟨k,hk,rfl,hall,hbel⟩:=hrel;have HZ:=Hd hall;have hbw:Below w.heap.size w wr:=hbw2.trans (hbel.mono hs2);have hsz:=hbel.size;clear q5' hall
  by_cases hlt:k<rs.length
  · obtain ⟨b,o,cs,x,rfl,hbB,hx,hR,hbx,hrow0,-⟩:=zcQ hr hlt
    have hrow:=zal hrow0 (hbw.mono hB) hbB
    have hsm:=hn.2 x (I hx)
    have hsub:=hsm.subs
    obtain ⟨c52,h52,A2,k2,e2,l2,m2,R2⟩:=hR.subs
    cases e2
    have HX:=Hd hx
    have hb':b<w.heap.size:=by omega
    have hbel0:=hbel.alloc hsz (F cs.toArray 60)
    have R2':=Hd R2
    have hrowN:=zcB wr cs 60 wr.heap.size 53 rfl hbx
    have C:=zmp cs x B (wr.alloc (F cs.toArray 60)) (by simp;omega) (RelayC.mono _ _ _ _ _ _ (J _) ((hbw2.trans (hbel0.mono hs2)).mono hB) hR) hsm
    have HC:=Hd C
    clear hx hR hsm R2 hrow0 C
    go_wp2_with fail
    refine HC.out.mono ?_
    rintro e w3 ⟨rfl,hb3⟩
    have hbel3:=hbel0.trans (hb3.mono (by simp;omega))
    have q52:w3.cell? ⟨wr.heap.size,52,l⟩=some (G A2 x.subs.length k2):=(hb3.cell (p:=⟨wr.heap.size,52,l⟩) (by simp)).trans (by simpa using h52)
    have hs3:=hbel3.size
    clear hb3 HC hrow hrowN h52 hbel0
    cases hz:(ownE x != 0) with
    | true =>
      have hnz:ownE x≠0:=by simpa using hz
      have HNZ:=Hd hnz
      clear hnz
      go_wp2
      go_ret2
      exact ⟨zeF ((zcH HZ.out (by rw [zdR HX.out HNZ.out];exact HNZ.out) hlt).trans (by rw [zdR HX.out HNZ.out])),hbw2.trans (hbel3.mono hs2)⟩
    | false =>
      have hnz:ownE x=0:=by simpa using hz
      have HNZ:=Hd hnz
      clear hz hnz
      have hz0:(ownE x != 0)=false:=by rw [HNZ.out];rfl
      go_wp2_with fail
      go_loopw [29] (ChI W2.heap.size W2 rs k x.subs.length) (fun i _=>x.subs.length-(intOf i).toNat)
      case atStart=>exact ⟨0,O _,rfl,zaW _,hbel3⟩
      case round =>
       obtain ⟨m,hm,rfl,hall,hbel1⟩:=hrel
       have HZ2:=Hd hall
       have hsz1:=hbel1.size
       have hbw1:Below w.heap.size w wr:=hbw2.trans (hbel1.mono hs2)
       clear hall q52 hz0
       by_cases hmt:m<x.subs.length
       · obtain ⟨b2,o2,ds,sb,rfl,hbb,hsx,-,⟨rfl,-,hdl,-,-⟩,hat2⟩:=(R2'.out.mono SubC.mono (J _) (hbw1.mono hB)).at_ hmt
         have q0:wr.cell? ⟨b2,o2+m*4,l⟩=some (u sb.loc):=hat2 0 _ rfl
         have q1:wr.cell? ⟨b2,o2+m*4+1,l⟩=some (u sb.device):=hat2 1 _ rfl
         have q2:wr.cell? ⟨b2,o2+m*4+2,l⟩=some (u sb.set):=hat2 2 _ rfl
         have q3:wr.cell? ⟨b2,o2+m*4+3,l⟩=some (u sb.signal):=hat2 3 _ rfl
         have hF:zbi rs (k:Int) (m:Int)=zbh rs (k:Int) (idx (fun r=>same r.name sb.device) rs) sb:=by simp [zbi,HX.out,hsx,show ¬ ((m:Int)<0) by omega,show ¬ ((k:Int)<0) by omega]
         have HF:=Hd hF
         have CB3:=CB2.below hbel1 hglt
         obtain ⟨hlt3,p0,p1,p2,p3,p4,p5⟩:=id CB3
         have hdv:=(ze9 (fun r:RelayM=>same r.name sb.device) rs).2
         have hBr:B≤wr.heap.size:=by omega
         have HMw:∀ W',Below W2.heap.size W2 W'→MapS Tryz.prog 9 3 W' mb rs.length (devF rs rs.length):=fun W' hb=>HM.out.below hb hmlt
         have HMW:=Hd HMw
         have HCw:∀ W',Below W2.heap.size W2 W'→Calls Tryz.prog 105 #[.agg #[a0,a1,a2,a3,a4,G (some ⟨b,o,l⟩) rs.length c],D E (k:Int),D E (idx (fun r=>same r.name sb.device) rs),.agg #[u sb.loc,u sb.device,u sb.set,u sb.signal]] W' (zeb (zbi rs (k:Int) (m:Int)) W'):=fun W' hb=>by
          rw [HF.out]
          exact zh8 a0 a1 a2 a3 a4 (some ⟨b,o,l⟩) c B rs (k:Int) _ sb W' (by have:=hb.size;omega) (H.out.mono (J _) ((hbw2.trans (hb.mono hs2)).mono hB)) hn hdv
         have HCW:=Hd HCw
         have e1:=hbel1.alloc hsz1 (F #[u sb.loc,u sb.device,u sb.set,u sb.signal] 62)
         have s1:=Hd (RS.new (sb:=sb) CB3)
         have hx1:w.heap.size<(wr.alloc (F #[u sb.loc,u sb.device,u sb.set,u sb.signal] 62)).drew.heap.size:=by simp;omega
         have hx2:wr.heap.size<(wr.alloc (F #[u sb.loc,u sb.device,u sb.set,u sb.signal] 62)).drew.heap.size:=by simp
         have hy1:W2.heap.size≤(wr.alloc (F #[u sb.loc,u sb.device,u sb.set,u sb.signal] 62)).drew.heap.size:=by simp;omega
         have hl2:w.heap.size<wr.heap.size+1:=by omega
         clear HMw HCw hsx hat2 hF
         go_wp2_with fail
         go_region_held3 (fun w'=>w'.cell? ⟨w.heap.size,0,l⟩=some a0∧w'.cell? ⟨w.heap.size,1,l⟩=some a1∧w'.cell? ⟨w.heap.size,2,l⟩=some a2∧w'.cell? ⟨w.heap.size,3,l⟩=some a3∧w'.cell? ⟨w.heap.size,4,l⟩=some a4∧w'.cell? ⟨w.heap.size,5,l⟩=some (G (some ⟨b,o,l⟩) rs.length c) ∧
          w'.cell? ⟨wr.heap.size,0,l⟩=some (u sb.loc)∧w'.cell? ⟨wr.heap.size,1,l⟩=some (u sb.device)∧w'.cell? ⟨wr.heap.size,2,l⟩=some (u sb.set)∧w'.cell? ⟨wr.heap.size,3,l⟩=some (u sb.signal)) (first | go_keep | exact s5)
          (first
           | ((go_at_call 106;refine (ziU mb _ rs sb.device _ (HMW.out _ e1.drew) hdl).mono ?_;rintro e w4 ⟨rfl,rfl⟩))
           | ((go_at_call 105;refine (HCW.out _ e1.drew).mono ?_;rintro e w5 ⟨rfl,hb5⟩;have s5:=RS.below (W:=(wr.alloc (F #[u sb.loc,u sb.device,u sb.set,u sb.signal] 62)).drew) s1.out hb5 hx1 hx2)))
         have hbel5:=e1.drew.trans (hb5.mono hy1)
         have hsk:subK rs k m=(zbi rs (k:Int) (m:Int)).2.2.2:=rfl
         generalize zbi rs (k:Int) (m:Int)=p at *
         have HSK:=Hd hsk
         clear hb5 s5 s1 p0 p1 p2 p3 p4 p5 q0 q1 q2 q3 hsk
         cases hz:(p.2.2.2 != 0) with
         | true =>
           have hnz:subK rs k m≠0:=by rw [HSK.out];simpa using hz
           have HN2:=Hd hnz
           clear hnz
           go_wp2
           go_ret2
           exact ⟨zeF ((zcH HZ.out (by rw [zhC HX.out HNZ.out HZ2.out hmt HN2.out];exact HN2.out) hlt).trans (by rw [zhC HX.out HNZ.out HZ2.out hmt HN2.out,HSK.out])),hbw2.trans (hbel5.mono hs2)⟩
         | false =>
           have hnz:subK rs k m=0:=by rw [HSK.out];simpa using hz
           have HN2:=Hd hnz
           clear hnz
           go_wp2
           go_roundw
           case rel=>exact ⟨m+1,by omega,by go_num,zaV HZ2.out HN2.out,hbel5⟩
           case measure=>simp [intOf];omega
       · obtain rfl:m=x.subs.length:=by omega
         go_wp2
         go_roundw
         case rel=>exact ⟨k+1,by omega,by go_num,zaV HZ.out (zlN HX.out HNZ.out HZ2.out),hbel1⟩
         case measure=>simp [intOf];omega
  · go_wp2
    go_ret2
    obtain rfl:k=rs.length:=by omega
    exact ⟨zeF (zef HZ.out),hbw⟩
end Go.Proofs.YtjkimieapfbhbaaGreatDoor
namespace Go.Proofs.YtjkimieapfbhbaaGreatDoor
open Go.RowKit
theorem zdU {a b:ByteArray}:same a b=true↔a=b:=by
 unfold same;rw [beq_iff_eq]
 constructor
 · intro h
   rw [zbC,zbC] at h
   exact ByteArray.ext (Array.toList_inj.1 h)
 · rintro rfl;rfl
theorem ze7 {rs:List RelayM}:∀ {n:Nat},(zaY rs n).2=0→zaN (oneK rs) n
 | 0,_=>zaW _
 | n+1,h=>by
   by_cases h0:(zaY rs n).2=0
   · have ih:=ze7 h0
     simp only [zaY,h0,if_true] at h
     by_cases h1:oneK rs n=0
     · exact zaV ih h1
     · simp [h1] at h
   · simp [zaY,h0] at h
theorem zcf {f:Nat→Int}:∀ {n:Nat},zbI f n=0→zaN f n
 | 0,_=>zaW _
 | n+1,h=>by
   simp only [zbI] at h
   by_cases h0:zbI f n=0
   · rw [if_pos h0] at h
     exact zaV (zcf h0) h
   · rw [if_neg h0] at h
     exact absurd h h0
theorem zlk {rs:List RelayM} {i:Nat} {r:RelayM} (hr:rs[i]? = some r) (h:oneK rs i=0):ownE r=0∧zaN (subK rs i) r.subs.length:=by
 simp only [oneK,hr] at h
 by_cases h0:ownE r=0
 · simp only [h0,ne_eq,not_true,if_false] at h
   exact ⟨h0,zcf h⟩
 · simp [h0] at h
theorem zii {r:RelayM} (h:ownE r=0):dupB (r.outputs++r.inputs)=false∧zaN (setK r.outputs r.sets) r.sets.length:=by
 unfold ownE at h
 cases hd:dupB (r.outputs++r.inputs) with
 | true=>simp [hd] at h
 | false =>
   simp only [hd,Bool.false_eq_true,if_false] at h
   by_cases h0:zg3 r.outputs r.sets=0
   · exact ⟨rfl,zcf h0⟩
   · simp [h0] at h
theorem zfe {r:RelayM} (h:ownE r=0) {s j:Nat} {d:ByteArray × List ByteArray} {y:ByteArray} (hd:r.sets[s]? = some d) (hy:d.2[j]? = some y):0≤idx (fun z=>same z y) r.outputs:=by
 have hs:=(zii h).2 s (List.getElem?_eq_some_iff.1 hd).1;rw [zhR hd] at hs;have hj:=zcf hs j (List.getElem?_eq_some_iff.1 hy).1;simp only [sigE,hy] at hj
 cases hk:seen r.outputs r.outputs.length y with
 | false=>simp [hk] at hj
 | true =>
   have:=zdE r.outputs r.outputs.length y
   rw [List.take_length,hk] at this
   simpa using this.symm
structure Denotes (rs:List RelayM) (i:Nat) (x:SubM) (d s j:Nat) (r:RelayM) (ds:ByteArray × List ByteArray):Prop where
 relay:rs[d]? = some r
 other:(d:Int)≠(i:Int)
 dev:idx (fun r=>same r.name x.device) rs=(d:Int)
 name:r.name=x.device
 set:r.sets[s]? = some ds
 setIdx:idx (fun d=>same d.1 x.set) r.sets=(s:Int)
 setName:ds.1=x.set
 pub:has (fun p=>same p x.set) r.pubs=true
 item:ds.2[j]? = some x.signal
theorem zmb {rs:List RelayM} {i k:Nat} {r0:RelayM} {x:SubM} (hr:rs[i]? = some r0) (hx:r0.subs[k]? = some x) (h:subK rs i k=0) :
 ∃ (d s j:Nat) (r:RelayM) (ds:ByteArray × List ByteArray),zbi rs (i:Int) (k:Int)=((d:Int),(s:Int),(j:Int),0)∧Denotes rs i x d s j r ds:=by
 have hF:zbi rs (i:Int) (k:Int)=zbh rs (i:Int) (idx (fun r=>same r.name x.device) rs) x:=by
  simp [zbi,hr,hx,show ¬ ((i:Int)<0) by omega,show ¬ ((k:Int)<0) by omega]
 unfold subK at h;rw [hF] at h ⊢
 rcases zba (fun r:RelayM=>same r.name x.device) rs with ⟨e,-⟩ | ⟨d,r,e,hd,hnm,-⟩
 · rw [e] at h;simp [zbh] at h
 rw [e] at h ⊢
 by_cases hdi:(d:Int)=(i:Int)
 · simp [zbh,hdi,show ¬ ((i:Int)<0) by omega] at h
 rcases zba (fun q:ByteArray × List ByteArray=>same q.1 x.set) r.sets with ⟨e2,-⟩ | ⟨s,ds,e2,hs,hsn,-⟩
 · simp [zbh,hdi,show ¬ ((d:Int)<0) by omega,hd,e2] at h
 cases hp:has (fun p=>same p x.set) r.pubs with
 | false=>simp [zbh,hdi,show ¬ ((d:Int)<0) by omega,hd,e2,show ¬ ((s:Int)<0) by omega,hp] at h
 | true =>
   rcases zba (fun q:ByteArray=>same q x.signal) ds.2 with ⟨e3,-⟩ | ⟨j,y,e3,hj,hy,-⟩
   · simp [zbh,hdi,show ¬ ((d:Int)<0) by omega,hd,e2,show ¬ ((s:Int)<0) by omega,hp,hs,e3] at h
   · refine ⟨d,s,j,r,ds,?_,hd,hdi,e,zdU.1 hnm,hs,e2,zdU.1 hsn,hp,?_⟩
     · simp [zbh,hdi,show ¬ ((d:Int)<0) by omega,hd,e2,show ¬ ((s:Int)<0) by omega,hp,hs,e3,show ¬ ((j:Int)<0) by omega]
     · rw [hj,zdU.1 hy]
structure PubE where
 relay:Nat
 set:Nat
 first:Int
 max:Int
 sigs:List Int
def zcT (r:RelayM) (s:ByteArray):Nat:=(idx (fun d=>same d.1 s) r.sets).toNat
def zdZ (r:RelayM) (k:Nat):List ByteArray:=((r.sets[k]?).map (·.2)).getD []
def zch (r:RelayM) (nm:ByteArray):Int:=idx (fun s=>same s nm) r.outputs
def pubE (i:Nat) (x:RelayX) (p:PubN):PubE:=⟨i,zcT x.r p.set,p.first,p.max,(zdZ x.r (zcT x.r p.set)).map (zch x.r)⟩
def zbR (i:Nat) (x:RelayX):List PubE:=x.pubs.map (pubE i x)
def zah (xs:List RelayX):Nat→List PubE
 | 0=>[]
 | n+1=>zah xs n++(match xs[n]? with
   | some x=>zbR n x
   | Option.none=>[])
theorem zci {xs:List RelayX} {n:Nat} {x:RelayX} (h:xs[n]? = some x):zah xs (n+1)=zah xs n++zbR n x:=by
 show zah xs n++(match xs[n]? with
  | some x=>zbR n x
  | Option.none=>[])=_
 rw [h]
theorem zc1 {xs:List RelayX}:∀ {n:Nat},∀ e∈zah xs n,e.relay<n
 | 0,e,h=>by cases h
 | n+1,e,h=>by
   rcases List.mem_append.1 h with h | h
   · exact Nat.lt_succ_of_lt (zc1 e h)
   · cases hx:xs[n]? with
     | none=>rw [hx] at h;cases h
     | some x =>
       rw [hx] at h
       obtain ⟨p,_,rfl⟩:=List.mem_map.1 h
       exact Nat.lt_succ_self n
theorem zff {xs:List RelayX} {i:Nat} {x:RelayX} {p:PubN} (hx:xs[i]? = some x) (hp:p∈x.pubs):∀ {n:Nat},i<n→pubE i x p∈zah xs n
 | 0,h=>absurd h (P _)
 | n+1,h=>by
   rcases Nat.lt_succ_iff_lt_or_eq.1 h with h' | rfl
   · exact List.mem_append.2 (.inl (zff hx hp h'))
   · rw [zci hx]
     exact List.mem_append.2 (.inr (List.mem_map.2 ⟨p,hp,rfl⟩))
theorem zcP {xs:List RelayX}:∀ {n:Nat},∀ e∈zah xs n,∃ x p,xs[e.relay]? = some x∧p∈x.pubs∧e=pubE e.relay x p
 | 0,e,h=>by cases h
 | n+1,e,h=>by
   rcases List.mem_append.1 h with h | h
   · exact zcP e h
   · cases hx:xs[n]? with
     | none=>rw [hx] at h;cases h
     | some x =>
       rw [hx] at h
       obtain ⟨p,hp,rfl⟩:=List.mem_map.1 h
       exact ⟨x,p,hx,hp,rfl⟩
theorem zdS {xs:List RelayX} (h:∀ (i:Nat) (x:RelayX),xs[i]? = some x→x.pubs.length≤4):∀ n:Nat,(zah xs n).length≤4*n
 | 0=>by simp [zah]
 | n+1=>by
   have:=zdS h n
   cases hx:xs[n]? with
   | none=>simp only [zah,hx,S,List.length_nil];omega
   | some x =>
     have h4:=h n x hx
     rw [zci hx]
     simp only [S,zbR,List.length_map]
     omega
structure PubsOk (xs:List RelayX):Prop where
 set:∀ (i:Nat) (x:RelayX),xs[i]? = some x→∀ p∈x.pubs,∃ d,x.r.sets[zcT x.r p.set]? = some d∧d.1=p.set
 apart:∀ (i:Nat) (x:RelayX),xs[i]? = some x→∀ (k:Nat) (p:PubN),x.pubs[k]? = some p→seen (x.pubs.map (·.set)) k p.set=false
def zfp (L:List PubE):Prop:=∀ (m n:Nat) (a b:PubE),m<n→L[m]? = some a→L[n]? = some b→¬ (a.relay=b.relay∧a.set=b.set)
theorem zgh {L M:List PubE} (h1:zfp L) (h2:zfp M) (h:∀ a∈L,∀ b∈M,¬ (a.relay=b.relay∧a.set=b.set)):zfp (L++M):=by
 intro m n a b hmn ha hb
 rcases Nat.lt_or_ge n L.length with hn | hn
 · rw [K hn] at hb
   rw [K (by omega)] at ha
   exact h1 m n a b hmn ha hb
 · rw [Q hn] at hb
   rcases Nat.lt_or_ge m L.length with hm | hm
   · rw [K hm] at ha
     exact h a (I ha) b (I hb)
   · rw [Q hm] at ha
     exact h2 (m-L.length) (n-L.length) a b (by omega) ha hb
theorem zja {xs:List RelayX} (h:PubsOk xs) {i:Nat} {x:RelayX} (hx:xs[i]? = some x):zfp (zbR i x):=by
 intro m n a b hmn ha hb he;simp only [zbR,R] at ha hb
 cases hp:x.pubs[m]? with
 | none=>rw [hp] at ha;cases ha
 | some p =>
   cases hq:x.pubs[n]? with
   | none=>rw [hq] at hb;cases hb
   | some q =>
     rw [hp] at ha
     rw [hq] at hb
     cases ha;cases hb
     obtain ⟨d,hd,e1⟩:=h.set i x hx p (I hp)
     obtain ⟨d',hd',e2⟩:=h.set i x hx q (I hq)
     have he2:zcT x.r p.set=zcT x.r q.set:=he.2
     rw [he2,hd'] at hd
     cases hd
     have hs:=h.apart i x hx n q hq
     unfold seen at hs
     rw [List.any_eq_false] at hs
     refine hs p.set ?_ ?_
     · exact I (i:=m) (by rw [List.getElem?_take_of_lt hmn,R,hp];rfl)
     · rw [← e1,← e2];exact zdU.2 rfl
theorem zc0 {xs:List RelayX} (h:PubsOk xs):∀ n:Nat,zfp (zah xs n)
 | 0=>fun m n a b _ ha _=>by simp [zah] at ha
 | n+1=>by
   cases hx:xs[n]? with
   | none =>
     have:zah xs (n+1)=zah xs n:=by simp [zah,hx]
     rw [this]
     exact zc0 h n
   | some x =>
     rw [zci hx]
     refine zgh (zc0 h n) (zja h hx) fun a ha b hb he => ?_
     have:=zc1 a ha
     obtain ⟨p,_,rfl⟩:=List.mem_map.1 hb
     have:a.relay=n:=he.1
     omega
def zca (L:List PubE) (r s:Nat):Option Nat:=L.findIdx? fun e=>e.relay == r && e.set == s
theorem zfd {L:List PubE} {r s n:Nat} (h:zca L r s=some n):∃ e,L[n]? = some e∧e.relay=r∧e.set=s:=by
 unfold zca at h;rw [List.findIdx?_eq_some_iff_getElem] at h;obtain ⟨hl,h1,_⟩:=h;simp only [Bool.and_eq_true,beq_iff_eq] at h1;exact ⟨L[n],List.getElem?_eq_getElem hl,h1⟩
theorem zj6 {L:List PubE} {e:PubE} (h:e∈L):∃ n,zca L e.relay e.set=some n:=by
 cases hn:zca L e.relay e.set with
 | some n=>exact ⟨n,rfl⟩
 | none =>
   unfold zca at hn
   rw [List.findIdx?_eq_none_iff] at hn
   have:=hn e h
   simp at this
theorem zd6 {L:List PubE} {a:PubE} {r s:Nat} (h:¬ (a.relay=r∧a.set=s)):zca (L++[a]) r s=zca L r s:=by
 unfold zca;rw [List.findIdx?_append]
 have:List.findIdx? (fun e:PubE=>e.relay == r && e.set == s) [a]=l:=by
  rw [List.findIdx?_eq_none_iff];intro x hx;simp only [List.mem_singleton] at hx;subst hx;simp only [Bool.and_eq_false_iff,beq_eq_false_iff_ne]
  by_cases h1:x.relay=r
  · exact .inr fun h2=>h ⟨h1,h2⟩
  · exact .inl h1
 rw [this];simp
theorem zeA {L:List PubE} {a:PubE} (h:zca L a.relay a.set=l):zca (L++[a]) a.relay a.set=some L.length:=by
 unfold zca at h ⊢;rw [List.findIdx?_append,h];simp [List.findIdx?_cons]
theorem zj7 {L:List PubE} {a:PubE} (h:zfp (L++[a])):zca L a.relay a.set=l:=by
 unfold zca;rw [List.findIdx?_eq_none_iff];intro x hx;obtain ⟨m,hm⟩:=List.getElem?_of_mem hx;have hml:m<L.length:=(List.getElem?_eq_some_iff.1 hm).1;have:=h m L.length x a hml (by rw [K hml];exact hm) (by simp);simp only [Bool.and_eq_false_iff,beq_eq_false_iff_ne]
 by_cases h1:x.relay=a.relay
 · exact .inr fun h2=>this ⟨h1,h2⟩
 · exact .inl h1
def keyL (r s:Nat):Lit := .string (keyBytes [.int .i64 (r:Int),.int .i64 (s:Int)])
def NumF (L:List PubE) (f:Lit→Option Value):Prop:=∀ r s:Nat,r<1000→s<1000→f (keyL r s)=(zca L r s).map fun (n:Nat)=>Value.int .i64 (n:Int)
end Go.Proofs.YtjkimieapfbhbaaGreatDoor
