/-
 The reference's Check of the signals.
-/
import Derived.Test.YtjkimieapfbhbaaGreatDoorKCheckR
import Derived.Test.YtjkimieapfbhbaaGreatDoorKOpC
import Derived.Test.YtjkimieapfbhbaaGreatDoorPUj
import Derived.Test.YtjkimieapfbhbaaGreatDoorKPSe
set_option maxRecDepth 100000
set_option maxHeartbeats 8000000
open Go.Value renaming slice → u, string → E, int → G, agg → O
open Option renaming none → D
open Go.Obj renaming cells → F
open Go.IntKind renaming i64 → I
open Nat renaming le_refl → J, lt_of_lt_of_le → U, zero_le → V, le_trans → Y
open Go.Proofs.Tryz renaming prog → M
open Go.World renaming cell? → Q, size_setCell → X, cell?_of_block → Z
open And renaming intro → T
namespace Go.Proofs.YtjkimieapfbhbaaGreatDoor
open Go.RowKit
theorem zi1 (a0 a1 a2 a3 a4:Value) (A:Option Addr) (c B:Nat) (rs:List RelayM) (w:World) (hB:B≤w.heap.size) (h:Conf w B a0 a1 a2 a3 a4 A c rs) (hn:zaH rs) :
 Calls M 17 #[O #[a0,a1,a2,a3,a4,u A rs.length c]] w (zgf (zaY rs rs.length) w):=by
 have hbox:=zaa w (F #[a0,a1,a2,a3,a4,u A rs.length c] 30);have CB0:=CB.new w a0 a1 a2 a3 a4 (u A rs.length c) 30;have H:=Hd h;clear h;have hn20:=hn.1;go_enter Tryz.func17,Tryz.ntmps17;go_wp2_with fail
 generalize w.alloc (F #[a0,a1,a2,a3,a4,u A rs.length c] 30)=W2 at *;have hs2:=hbox.size;have hglt:=CB0.lt
 go_loopw [4] (ChO W2.heap.size W2 rs) (fun i _=>rs.length-(intOf i).toNat)
 case atStart=>exact ⟨0,V _,rfl,zaW _,Below.refl _ _⟩
 case round =>
  obtain ⟨k,hk,rfl,hall,hbel⟩:=hrel;have HZ:=Hd hall;have hbw:Below w.heap.size w wr:=hbox.trans (hbel.mono hs2);have hsz:=hbel.size;obtain ⟨-,q0,q1,q2,q3,q4,q5⟩:=CB0.below hbel hglt;clear hall
  by_cases hlt:k<rs.length
  · have C:=zmo a0 a1 a2 a3 a4 A c B rs k hlt wr (by omega) (H.out.mono (J _) (hbw.mono hB)) hn
    have HC:=Hd C
    clear C
    go_wp2_with fail
    refine HC.out.mono ?_
    rintro e w3 ⟨rfl,hb3⟩
    have hbel3:=hbel.trans (hb3.mono hsz)
    clear hb3 HC q0 q1 q2 q3 q4 q5
    generalize hp:oneK rs k=p at *
    have HP:=Hd hp
    clear hp
    cases hz:(p != 0) with
    | true =>
      have hnz:p≠0:=by simpa using hz
      have HNZ:=Hd hnz
      clear hnz
      go_wp2
      go_ret2
      exact ⟨zeF ((zcH HZ.out (by rw [HP.out];exact HNZ.out) hlt).trans (by rw [HP.out])),hbox.trans (hbel3.mono hs2)⟩
    | false =>
      have hnz:p=0:=by simpa using hz
      have HNZ:=Hd hnz
      clear hnz
      go_wp2
      go_roundw
      case rel=>exact ⟨k+1,by omega,by go_num,zaV HZ.out (by rw [HP.out,HNZ.out]),hbel3⟩
      case measure=>simp [intOf];omega
  · go_wp2
    go_ret2
    obtain rfl:k=rs.length:=by omega
    exact ⟨zeF (zef HZ.out),hbw⟩
attribute [local go_sem ↓] zav zaw
attribute [local go_sem] zay zaz
def TwoSays (P:Prop) (w:World) (e:Ending) (w':World):Prop:=∃ a n:Int,(n=0→P)∧e = .returned (.tuple #[G I a,G I n])∧Below w.heap.size w w'
theorem TwoSays.of {P:Prop} {a n:Int} {w w':World} (h:Below w.heap.size w w') (hp:n=0→P):TwoSays P w (.returned (.tuple #[G I a,G I n])) w':=⟨a,n,hp,rfl,h⟩
def zkS (S:StatM) (xs:List RelayX) (k:Nat):Prop:=∀ (j:Nat) (y:RelayX),j<k→xs[j]? = some y→RelF S xs j y
theorem ze0 (B:Nat) (p:StAt) (S:StatM) (A:Option Addr) (c:Nat) (xs:List RelayX) (w:World) (hB:B≤w.heap.size) (h:ConfX w B p S A c xs) (hx20:xs.length≤20) (hm:StSmall S) :
 Calls M 16 #[O #[E S.name,u p.A1 S.buses.length p.c1,u p.A2 S.lines.length p.c2,u p.A3 S.sources.length p.c3,u p.A4 S.bays.length p.c4],u A xs.length c] w (TwoSays (zkR S xs) w):=by
 have HS:=Hd h.st;have HR:=Hd h.rows;have hcap:=h.cap;obtain ⟨hc1,hc2⟩:=hcap;unfold maxLen at hc2;clear h;have hb:=zaa w (F #[E S.name,u p.A1 S.buses.length p.c1,u p.A2 S.lines.length p.c2,u p.A3 S.sources.length p.c3,u p.A4 S.bays.length p.c4] 27);have OW:=fun W (hW:Below w.heap.size w W) (Ax:Option Addr) (hA:Ax=A) i (hi:i≤xs.length) x cs hX=>zkk B p S A c xs i hi hx20 x cs W (by have:=hW.size;omega) (HS.out.mono (J _) (hW.mono hB)) (HR.out.mono RelayXC.mono (J _) (hW.mono hB)) hX hm
 have HOW:=Hd OW;clear OW;obtain ⟨A1,A2,A3,A4,k1,k2,k3,k4⟩:=p;dsimp only at HOW hb;have q0:(w.alloc (F #[E S.name,u A1 S.buses.length k1,u A2 S.lines.length k2,u A3 S.sources.length k3,u A4 S.bays.length k4] 27)).cell? ⟨w.heap.size,0,D⟩=some (E S.name):=by simp
 have q1:(w.alloc (F #[E S.name,u A1 S.buses.length k1,u A2 S.lines.length k2,u A3 S.sources.length k3,u A4 S.bays.length k4] 27)).cell? ⟨w.heap.size,1,D⟩=some (u A1 S.buses.length k1):=by simp
 have q2:(w.alloc (F #[E S.name,u A1 S.buses.length k1,u A2 S.lines.length k2,u A3 S.sources.length k3,u A4 S.bays.length k4] 27)).cell? ⟨w.heap.size,2,D⟩=some (u A2 S.lines.length k2):=by simp
 have q3:(w.alloc (F #[E S.name,u A1 S.buses.length k1,u A2 S.lines.length k2,u A3 S.sources.length k3,u A4 S.bays.length k4] 27)).cell? ⟨w.heap.size,3,D⟩=some (u A3 S.sources.length k3):=by simp
 have q4:(w.alloc (F #[E S.name,u A1 S.buses.length k1,u A2 S.lines.length k2,u A3 S.sources.length k3,u A4 S.bays.length k4] 27)).cell? ⟨w.heap.size,4,D⟩=some (u A4 S.bays.length k4):=by simp
 have hg:w.heap.size<(w.alloc (F #[E S.name,u A1 S.buses.length k1,u A2 S.lines.length k2,u A3 S.sources.length k3,u A4 S.bays.length k4] 27)).heap.size:=by simp
 go_enter Tryz.func16,Tryz.ntmps16;go_wp2;generalize w.alloc (F #[E S.name,u A1 S.buses.length k1,u A2 S.lines.length k2,u A3 S.sources.length k3,u A4 S.bays.length k4] 27)=W at *
 go_loopw [6] (zco W.heap.size W xs.length (zkS S xs)) (fun i _=>xs.length-(intOf i).toNat)
 case atStart=>exact ⟨0,V _,rfl,fun _ _ h=>absurd h (Nat.not_lt_zero _),Below.refl _ _⟩
 case round =>
  obtain ⟨k,hk,rfl,hu,hbel⟩:=hrel;have HU:=Hd hu;have hw:=Below.then hb hbel
  have hs:=hbel.size;have gw:w.heap.size<wr.heap.size:=by omega
  obtain ⟨p0,p1,p2,p3,p4⟩:=kb5 hbel hg ⟨q0,q1,q2,q3,q4⟩;clear hu
  by_cases hlt:k<xs.length
  · obtain ⟨b,o,cs,x,rfl,hbB,hx,hl,hR,hat⟩:=(HR.out.mono RelayXC.mono (J _) (hw.mono hB)).at_ hlt
    have hrow:=zbs hat hl
    have HX:=Hd hx
    have hb':b<wr.heap.size:=by omega
    have hk0:(0:Int)≤(k:Int):=by omega
    have hk1:(k:Int)<(xs.length:Int):=by omega
    have hkc:(k:Int)≤(c:Int):=by omega
    have C:=fun W' (hW':Below wr.heap.size wr W')=>HOW.out W' (Below.then hw hW') _ rfl k hk x cs (RelayXC.mono _ _ _ _ _ _ (J _) (hW'.mono (by omega)) hR)
    have HC:=Hd C
    clear C hR hat hl hx
    go_wp2_with fail
    go_region_held3 (fun w'=>w'.cell? ⟨w.heap.size,0,D⟩=some (E S.name)∧w'.cell? ⟨w.heap.size,1,D⟩=some (u A1 S.buses.length k1)∧w'.cell? ⟨w.heap.size,2,D⟩=some (u A2 S.lines.length k2)∧w'.cell? ⟨w.heap.size,3,D⟩=some (u A3 S.sources.length k3)∧w'.cell? ⟨w.heap.size,4,D⟩=some (u A4 S.bays.length k4)∧zbG w' b (o+k*53) 53=some cs) (first | go_keep | exact s2)
     (first
      | ((go_at_call 33;refine (HC.out _ (zag (Below.refl _ _) 1)).mono ?_;rintro e w2 ⟨n,t,rfl,hb2'⟩;have hb2:=za8 (a:=wr) (B':=wr.heap.size) hb2' rfl rfl rfl rfl (J _);have s2:=T ((hb2.cell (p:=⟨w.heap.size,0,D⟩) gw).trans p0) (T ((hb2.cell (p:=⟨w.heap.size,1,D⟩) gw).trans p1) (T ((hb2.cell (p:=⟨w.heap.size,2,D⟩) gw).trans p2) (T ((hb2.cell (p:=⟨w.heap.size,3,D⟩) gw).trans p3) (T ((hb2.cell (p:=⟨w.heap.size,4,D⟩) gw).trans p4) (zal hrow hb2 hb'))))))))
    have hw2:=Below.then hw hb2
    have hbel2:=hbel.trans (hb2.mono hs)
    have HT:=Hd t
    clear s2 hb2' t p0 p1 p2 p3 p4 hrow
    cases hz:(n != 0)
    case true =>
     go_wp2
     go_ret2
     exact TwoSays.of hw2 fun h0=>absurd h0 (by simpa using hz)
    have HF:=Hd (HT.out (by simpa using hz))
    go_wp2
    go_roundw
    case rel=>exact ⟨k+1,by omega,by go_num,zbB HU.out HX.out HF.out,hbel2⟩
    case measure=>simp [intOf];omega
  · obtain rfl:k=xs.length:=by omega
    go_wp2
    go_ret2
    exact TwoSays.of hw fun _ i x hx=>HU.out i x (List.getElem?_eq_some_iff.1 hx).1 hx
end Go.Proofs.YtjkimieapfbhbaaGreatDoor
namespace Go.Proofs.YtjkimieapfbhbaaGreatDoor
open Go.RowKit
structure CfgF (S:StatM) (xs:List RelayX):Prop where
 st:StF S
 rels:zkR S xs
 sigs:(zaY (zap xs) xs.length).2=0
theorem StF.small {S:StatM} (h:StF S):StSmall S:=⟨h.n1.1,h.n1.2,h.n2,h.n3,h.n4⟩
theorem zgR (B:Nat) (p:StAt) (S:StatM) (A:Option Addr) (c:Nat) (xs:List RelayX) (w:World) (hB:B≤w.heap.size) (h:ConfX w B p S A c xs) (hn:zaH (zap xs)) :
 Calls M 17 #[O #[E S.name,u p.A1 S.buses.length p.c1,u p.A2 S.lines.length p.c2,u p.A3 S.sources.length p.c3,u p.A4 S.bays.length p.c4,u A xs.length c]] w (zgf (zaY (zap xs) xs.length) w):=by
 have:=zi1 _ _ _ _ _ A c B (zap xs) w hB h.conf hn;rw [zaL] at this;exact this
theorem zgE (B:Nat) (p:StAt) (S:StatM) (A:Option Addr) (c:Nat) (xs:List RelayX) (w:World) (hB:B≤w.heap.size) (h:ConfX w B p S A c xs) (hn:zaH (zap xs)) :
 Calls M 70 #[O #[E S.name,u p.A1 S.buses.length p.c1,u p.A2 S.lines.length p.c2,u p.A3 S.sources.length p.c3,u p.A4 S.bays.length p.c4,u A xs.length c]] w (zgf (zaY (zap xs) xs.length) w):=by
 have:=zjA _ _ _ _ _ A c B (zap xs) w hB h.conf hn;rw [zaL] at this;exact this
theorem zeW (B:Nat) (p:StAt) (S:StatM) (A:Option Addr) (c:Nat) (xs:List RelayX) (w:World) (hB:B≤w.heap.size) (h:ConfX w B p S A c xs) (hn:zaH (zap xs)) :
 Calls M 5 #[O #[E S.name,u p.A1 S.buses.length p.c1,u p.A2 S.lines.length p.c2,u p.A3 S.sources.length p.c3,u p.A4 S.bays.length p.c4,u A xs.length c]] w (ErrSays (CfgF S xs) w):=by
 have H:=Hd h;have HN:=Hd hn;have hx20:xs.length≤20:=by have:=hn.1;rw [zaL] at this;exact this
 have hb:=zaa w (F #[E S.name,u p.A1 S.buses.length p.c1,u p.A2 S.lines.length p.c2,u p.A3 S.sources.length p.c3,u p.A4 S.bays.length p.c4,u A xs.length c] 30);have CB0:=CB.new w (E S.name) (u p.A1 S.buses.length p.c1) (u p.A2 S.lines.length p.c2) (u p.A3 S.sources.length p.c3) (u p.A4 S.bays.length p.c4) (u A xs.length c) 30;clear h hn;go_enter Tryz.func5,Tryz.ntmps5;go_wp2_with fail
 refine (zgQ B p S _ (by simp;omega) (H.out.st.mono (J _) (hb.mono hB))).mono ?_
 rintro e w1 ⟨n1,t1,rfl,j1⟩
 have hw1:=Below.then hb j1
 have CB1:=CB0.below j1 CB0.lt;generalize w.alloc (F #[E S.name,u p.A1 S.buses.length p.c1,u p.A2 S.lines.length p.c2,u p.A3 S.sources.length p.c3,u p.A4 S.bays.length p.c4,u A xs.length c] 30)=W at *
 cases hz:(n1 != 0)
 case true =>
  go_wp2;go_ret
  exact ErrSays.no hw1 (by simpa using hz)
 have HT1:=Hd (t1 (by simpa using hz));clear t1 CB0;obtain ⟨-,q0,q1,q2,q3,q4,q5⟩:=id CB1;go_wp2_with fail
 refine (ze0 B p S A c xs _ (by have:=hw1.size;omega) (H.out.mono (J _) (hw1.mono hB)) hx20 HT1.out.small).mono ?_
 rintro e w2 ⟨a2,n2,t2,rfl,j2⟩
 have hw2:=Below.then hw1 j2
 have CB2:=CB1.below j2 CB1.lt;clear q0 q1 q2 q3 q4 q5 CB1
 cases hz2:(n2 != 0)
 case true =>
  go_wp2;go_ret
  exact ErrSays.no hw2 (by simpa using hz2)
 have HT2:=Hd (t2 (by simpa using hz2));clear t2;obtain ⟨-,q0,q1,q2,q3,q4,q5⟩:=id CB2;go_wp2_with fail
 refine (zgR B p S A c xs _ (by have:=hw2.size;omega) (H.out.mono (J _) (hw2.mono hB)) HN.out).mono ?_
 rintro e w3 ⟨rfl,j3⟩
 have hw3:=Below.then hw2 j3
 clear q0 q1 q2 q3 q4 q5 CB2;go_wp2;go_ret
 exact ErrSays.of hw3 fun h0=>⟨HT1.out,HT2.out,h0⟩
theorem ziQ (B:Nat) (p:StAt) (S:StatM) (w:World) (hB:B≤w.heap.size) (h:StC w B p S) :
 Calls M 13 #[O #[E S.name,u p.A1 S.buses.length p.c1,u p.A2 S.lines.length p.c2,u p.A3 S.sources.length p.c3,u p.A4 S.bays.length p.c4]] w (BoolSays True w):=by
 have hb:=zaa w (F #[E S.name,u p.A1 S.buses.length p.c1,u p.A2 S.lines.length p.c2,u p.A3 S.sources.length p.c3,u p.A4 S.bays.length p.c4] 27);have HR:=Hd (h.bays.mono BayC.mono (J _) (hb.mono hB));have q4:(w.alloc (F #[E S.name,u p.A1 S.buses.length p.c1,u p.A2 S.lines.length p.c2,u p.A3 S.sources.length p.c3,u p.A4 S.bays.length p.c4] 27)).cell? ⟨w.heap.size,4,D⟩=some (u p.A4 S.bays.length p.c4):=by simp
 have hlt0:B≤(w.alloc (F #[E S.name,u p.A1 S.buses.length p.c1,u p.A2 S.lines.length p.c2,u p.A3 S.sources.length p.c3,u p.A4 S.bays.length p.c4] 27)).heap.size:=by simp;omega
 clear h;obtain ⟨A1,A2,A3,A4,k1,k2,k3,k4⟩:=p;dsimp only at HR q4 hb hlt0;go_enter Tryz.func13,Tryz.ntmps13;go_wp2
 all_goals first
  | (go_ret;exact BoolSays.of hb fun _=>trivial)
  | (generalize w.alloc (F #[E S.name,u A1 S.buses.length k1,u A2 S.lines.length k2,u A3 S.sources.length k3,u A4 S.bays.length k4] 27)=W at *
     go_loop [3] (fun i=>∃ k:Nat,k≤S.bays.length∧i = G I k) (fun i=>S.bays.length-(intOf i).toNat)
     case atStart=>exact ⟨0,V _,rfl⟩
     case round =>
      obtain ⟨k,hk,rfl⟩:=hrel
      by_cases hlt:k<S.bays.length
      · obtain ⟨b,o,ds,x,rfl,hbB,hx,-,⟨A5,c5,rfl,-,-,-,-⟩,hat⟩:=HR.out.at_ hlt
        have d6:W.cell? ⟨b,o+k*12+6,D⟩=some (u A5 x.links.length c5):=hat 6 _ rfl
        have hb':b<W.heap.size:=by omega
        have hk0:(0:Int)≤(k:Int):=by omega
        have hk1:(k:Int)<(S.bays.length:Int):=by omega
        clear hat hx
        by_cases h6:(6:Int)<(x.links.length:Int)
        · go_wp2
          go_ret
          exact BoolSays.of hb fun _=>trivial
        · go_wp2
          go_round
          case rel=>exact ⟨k+1,by omega,by go_num⟩
          case measure=>simp [intOf];omega
      · go_wp2
        go_ret
        exact BoolSays.of hb fun _=>trivial)
theorem ziR (B:Nat) (p:StAt) (S:StatM) (A:Option Addr) (c:Nat) (xs:List RelayX) (w:World) (hB:B≤w.heap.size) (h:ConfX w B p S A c xs) :
 Calls M 14 #[O #[E S.name,u p.A1 S.buses.length p.c1,u p.A2 S.lines.length p.c2,u p.A3 S.sources.length p.c3,u p.A4 S.bays.length p.c4,u A xs.length c]] w (NoSays (zaH (zap xs)) w):=by
 have:=ziB _ _ _ _ _ A c B (zap xs) w hB h.conf;rw [zaL] at this;exact this
theorem zhy (B:Nat) (p:StAt) (S:StatM) (A:Option Addr) (c:Nat) (xs:List RelayX) (w:World) (hB:B≤w.heap.size) (h:ConfX w B p S A c xs) :
 Calls M 4 #[O #[E S.name,u p.A1 S.buses.length p.c1,u p.A2 S.lines.length p.c2,u p.A3 S.sources.length p.c3,u p.A4 S.bays.length p.c4,u A xs.length c]] w (NoSays (zaH (zap xs)) w):=by
 have H:=Hd h;have hb:=zaa w (F #[E S.name,u p.A1 S.buses.length p.c1,u p.A2 S.lines.length p.c2,u p.A3 S.sources.length p.c3,u p.A4 S.bays.length p.c4,u A xs.length c] 30);have CB0:=CB.new w (E S.name) (u p.A1 S.buses.length p.c1) (u p.A2 S.lines.length p.c2) (u p.A3 S.sources.length p.c3) (u p.A4 S.bays.length p.c4) (u A xs.length c) 30;clear h;go_enter Tryz.func4,Tryz.ntmps4;go_wp2_with fail
 refine (ziQ B p S _ (by simp;omega) (H.out.st.mono (J _) (hb.mono hB))).mono ?_
 rintro e w1 ⟨b1,-,rfl,j1⟩
 have hw1:=Below.then hb j1
 have CB1:=CB0.below j1 CB0.lt;generalize w.alloc (F #[E S.name,u p.A1 S.buses.length p.c1,u p.A2 S.lines.length p.c2,u p.A3 S.sources.length p.c3,u p.A4 S.bays.length p.c4,u A xs.length c] 30)=W at *;obtain ⟨-,q0,q1,q2,q3,q4,q5⟩:=id CB1;clear CB0
 cases b1
 case true =>
  go_wp2;go_ret
  exact NoSays.yes hw1
 go_wp2_with fail
 refine (ziR B p S A c xs _ (by have:=hw1.size;omega) (H.out.mono (J _) (hw1.mono hB))).mono ?_
 rintro e w2 ⟨b2,t2,rfl,j2⟩
 have hw2:=Below.then hw1 j2
 have HT2:=Hd t2;clear t2;go_wp2;go_ret
 exact NoSays.of hw2 HT2.out
theorem zeM (B:Nat) (p:StAt) (S:StatM) (A:Option Addr) (c:Nat) (xs:List RelayX) (w:World) (hB:B≤w.heap.size) (h:ConfX w B p S A c xs) (hn:zaH (zap xs)) (hF:CfgF S xs) :
 Calls M 35 #[O #[E S.name,u p.A1 S.buses.length p.c1,u p.A2 S.lines.length p.c2,u p.A3 S.sources.length p.c3,u p.A4 S.bays.length p.c4,u A xs.length c]] w (zaU 0 w):=by
 have H:=Hd h;have HN:=Hd hn;have HF:=Hd hF;have hx20:xs.length≤20:=by have:=hn.1;rw [zaL] at this;exact this
 have hb:=zaa w (F #[E S.name,u p.A1 S.buses.length p.c1,u p.A2 S.lines.length p.c2,u p.A3 S.sources.length p.c3,u p.A4 S.bays.length p.c4,u A xs.length c] 30);have CB0:=CB.new w (E S.name) (u p.A1 S.buses.length p.c1) (u p.A2 S.lines.length p.c2) (u p.A3 S.sources.length p.c3) (u p.A4 S.bays.length p.c4) (u A xs.length c) 30;clear h hn hF;go_enter Tryz.func35,Tryz.ntmps35;go_upto_region 1 with fail
 generalize w.alloc (F #[E S.name,u p.A1 S.buses.length p.c1,u p.A2 S.lines.length p.c2,u p.A3 S.sources.length p.c3,u p.A4 S.bays.length p.c4,u A xs.length c] 30)=W at *;have HC0:=Hd CB0;obtain ⟨hlt,p0,p1,p2,p3,p4,p5⟩:=CB0;go_wp2_with fail
 refine (zcl B p S W (Y hB hb.size) (H.out.st.mono (J _) (hb.mono hB)) HF.out.st).mono ?_
 rintro e w1 ⟨rfl,j1⟩
 have b1:=Below.then hb j1
 have HC1:=Hd (HC0.out.below j1 hlt);clear hlt p0 p1 p2 p3 p4 p5 j1;obtain ⟨hlt,p0,p1,p2,p3,p4,p5⟩:=id HC1.out;go_wp2_with fail
 refine (zeI B p S A c xs w1 (Y hB b1.size) (H.out.mono (J _) (b1.mono hB)) HF.out.st HF.out.rels hx20).mono ?_
 rintro e w2 ⟨rfl,j2⟩
 have b2:=Below.then b1 j2
 have HC2:=Hd (HC1.out.below j2 hlt);clear hlt p0 p1 p2 p3 p4 p5 j2 b1;obtain ⟨hlt,p0,p1,p2,p3,p4,p5⟩:=id HC2.out;go_wp2_with fail
 refine (zgE B p S A c xs w2 (Y hB b2.size) (H.out.mono (J _) (b2.mono hB)) HN.out).mono ?_
 rintro e w3 ⟨rfl,j3⟩
 have HE:=HF.out.sigs;generalize zaY (zap xs) xs.length=r at *;obtain ⟨r1,r2⟩:=r;simp only at HE;subst HE;go_wp2;go_ret
 exact ⟨rfl,Below.then b2 j3⟩
theorem ziP (a:Value) (nm st:ByteArray) (g:Nat) (w:World) (hg:g<w.heap.size) (hc:w.cell? ⟨g,0,D⟩=some (E st)) :
 Calls M 73 #[O #[E nm,a],.pointer (some ⟨g,0,D⟩)] w (zaG (same nm st) w):=by
 go_enter Tryz.func73,Tryz.ntmps73;go_wp2;go_ret
 exact ⟨rfl,zaa _ _⟩
theorem zhs (A:Option Addr) (c B g:Nat) (xs:List (ByteArray × List ByteArray)) (dev:ByteArray) (w:World) (hB:B≤w.heap.size) (hr:Rws SetC 2 w B A xs.length xs) (hn:xs.length≤1000) (hg:g<w.heap.size) (hc:w.cell? ⟨g,0,D⟩=some (E dev)) :
 Calls M 72 #[u A xs.length c,.func (.func 73) #[] #[.pointer (some ⟨g,0,D⟩)]] w (zaU (idx (fun r=>same r.1 dev) xs) w):=by
 go_enter Tryz.func72,Tryz.ntmps72;go_wp2
 go_loopw [8] (zdL (fun r=>same r.1 dev) xs w.heap.size w) (fun i _=>xs.length-(intOf i).toNat)
 case atStart=>exact ⟨0,V _,rfl,za2 _ _,Below.refl _ _⟩
 case round =>
  obtain ⟨k,hk,rfl,hno,hbel⟩:=hrel;have HN:=Hd hno;clear hno
  by_cases hlt:k<xs.length
  · obtain ⟨b,o,cs,x,rfl,hbB,hx,hl,⟨a1,rfl,-,-⟩,hat⟩:=hr.at_ hlt
    have hc0:wr.cell? ⟨b,o+k*2,D⟩=some (E x.1):=(hbel.cell (by show b<w.heap.size;omega)).trans (hat 0 _ rfl)
    have hc1:wr.cell? ⟨b,o+k*2+1,D⟩=some a1:=(hbel.cell (by show b<w.heap.size;omega)).trans (hat 1 _ rfl)
    have hcc:wr.cell? ⟨g,0,D⟩=some (E dev):=(hbel.cell (p:=⟨g,0,D⟩) hg).trans hc
    have hg':g<wr.heap.size:=by have:=hbel.size;omega
    have HX:=Hd hx
    have C:=ziP a1 x.1 dev g wr hg' hcc
    cases hs:same x.1 dev with
    | true =>
      rw [hs] at C
      have HC:=Hd C
      have HS:=Hd hs
      clear C hs hx hat hr hl hcc hc
      go_wp2_with (go_at_call 73;refine HC.out.mono ?_;rintro e w2 ⟨rfl,hb2⟩)
      go_ret
      exact ⟨zaP (zbk HN.out HX.out HS.out).symm,hbel.trans (hb2.mono hbel.size)⟩
    | false =>
      rw [hs] at C
      have HC:=Hd C
      have HS:=Hd hs
      clear C hs hx hat hr hl hcc hc
      go_wp2_with (go_at_call 73;refine HC.out.mono ?_;rintro e w2 ⟨rfl,hb2⟩)
      go_roundw
      case rel=>exact ⟨k+1,by omega,by go_num,zaZ HN.out HX.out HS.out,hbel.trans (hb2.mono hbel.size)⟩
      case measure=>simp [intOf];omega
  · go_wp2
    go_ret
    obtain rfl:k=xs.length:=by omega
    exact ⟨zaP (zbL HN.out).symm,hbel⟩
def IntK (_:World) (_:Nat→Prop) (cs:List Value) (n:Int):Prop:=cs=[G I n]
theorem IntK.mono:zdj IntK:=fun _ _ _ _ _ _ _ _ h=>h
def StrK (_:World) (_:Nat→Prop) (cs:List Value) (s:ByteArray):Prop:=cs=[E s]∧s.size≤maxLen
theorem StrK.mono:zdj StrK:=fun _ _ _ _ _ _ _ _ h=>h
theorem zms {w:World} {K:Nat→Prop} {A:Option Addr} {n B:Nat} {xs:List ByteArray} (h:Rw StrK 1 w K A n xs) (hK:∀ b,K b→b<B):Rws StrC 1 w B A n xs:=by
 refine ⟨h.1,fun hn => ?_⟩
 obtain ⟨b,o,e,hb,hr⟩:=h.2 hn;exact ⟨b,o,e,hK b hb,fun k x hx=>hr k x hx⟩
theorem Frm.remap {n:Nat} {K:Nat→Prop} {l l':List (Option Nat)} (h:Frm n K l) (p:Nat→Nat) (hp:∀ i,i<l'.length→∀ j,j<l'.length→p i=p j→i=j) (he:∀ i,i<l'.length→l[p i]? = l'[i]?):Frm n K l':=by
 have hm:∀ b,some b∈l'→some b∈l:=by
  intro b hb;obtain ⟨i,hi⟩:=List.getElem?_of_mem hb;have hl:=(List.getElem?_eq_some_iff.1 hi).1;exact List.mem_of_getElem? ((he i hl).trans hi)
 refine ⟨fun i j b hi hj => ?_,fun b hb=>h.lt b (hm b hb),fun b hb=>⟨(h.kl b hb).1,fun q=>(h.kl b hb).2 (hm b q)⟩⟩
 have h1:=(List.getElem?_eq_some_iff.1 hi).1;have h2:=(List.getElem?_eq_some_iff.1 hj).1;exact hp i h1 j h2 (h.inj _ _ b ((he i h1).trans hi) ((he j h2).trans hj))
def snO (i:Nat):Nat:=if i=3 then 4 else if i=4 then 5 else if i=5 then 3 else i
theorem zkr {n:Nat} {K:Nat→Prop} {a b c d e f:Option Nat} (h:Frm n K [a,b,c,f,d,e]):Frm n K [a,b,c,d,e,f]:=
 h.remap snO (show ∀ i,i<6→∀ j,j<6→snO i=snO j→i=j by decide) fun i hi=>by
  have:i<6:=hi
  rcases i with _ | _ | _ | _ | _ | _ | i
  all_goals first | rfl | omega
abbrev PubT:=PubE × Option Addr × Nat
def zd7 (y:PubT):List Value:=[G I (y.1.relay:Int),G I (y.1.set:Int),G I y.1.first,G I y.1.max,u y.2.1 y.1.sigs.length y.2.2]
def SigR (w:World) (K:Nat→Prop) (y:PubT):Prop:=y.1.sigs.length≤y.2.2∧y.2.2≤maxLen∧Rw IntK 1 w K y.2.1 y.1.sigs.length y.1.sigs
theorem SigR.mono {w w':World} {K K':Nat→Prop} {y:PubT} (h:SigR w K y) (hK:∀ b,K b→K' b) (hk:KeepOn K w w'):SigR w' K' y:=⟨h.1,h.2.1,h.2.2.mono IntK.mono hK hk⟩
theorem za3 {w w':World} {base size n:Nat} {e:TypeId} {v:Value} {xs:List Value} (h:w.ownsRow base e size v n xs) (hk:∀ b,v.ownBlock=some b→w'.heap[b]? = w.heap[b]?):w'.ownsRow base e size v n xs:=by
 refine ⟨h.1,?_⟩
 rcases h.2 with h | ⟨g,cap,cur,rfl,h1,h2,h3⟩
 · exact .inl h
 · exact .inr ⟨g,cap,cur,rfl,h1,(hk g rfl).trans h2,h3⟩
structure SndI (W:World) (base bS g gt gr:Nat) (a0 a1 a2 a3 a4 a5:Value) (nm:Option Nat) (Ln L:List PubE) (v7 v8:Value) (ys:List PubT) (K:Nat→Prop) (c vS:Value) (ns:List Value) (k:Nat) (ex:List (Option Nat)):Prop where
 cp:CpB W g a0 a1 a2 a3 a4 a5 nm v7 v8
 num:NumS W g nm Ln
 own7:W.ownsRow base 97 5 v7 L.length (ys.flatMap zd7)
 ysL:ys.map (·.1)=L
 sig:∀ y∈ys,SigR W K y
 box:W.heap[gt]? = some (.cells #[c,vS,u D 0 0] 67 (0,0))
 ownS:W.ownsRow bS 3 1 vS k ns
 res:W.heap[gr]? = some (.cells #[u D 0 0,u D 0 0,u D 0 0] 67 (0,0))
 frm:Frm W.heap.size K (some g::nm::v7.ownBlock::some gt::vS.ownBlock::some gr::ex)
structure OutI (W:World) (bG gb:Nat) (r t f m:Int) (vG:Value) (j:Nat) (gs:List Value):Prop where
 box:W.heap[gb]? = some (.cells #[G I r,G I t,G I f,G I m,vG] 97 (0,0))
 own:W.ownsRow bG 3 1 vG j gs
section
variable {W W' W2 : World} {base bS bG g gt gr gb : Nat} {a0 a1 a2 a3 a4 a5 : Value} {nm : Option Nat} {Ln L : List PubE} {v7 v8 : Value} {ys : List PubT} {K : Nat → Prop} {c vS : Value} {ns : List Value} {k j : Nat} {ex : List (Option Nat)}
 {r t f m:Int} {vG:Value} {gs:List Value}
theorem OutI.lt (h:OutI W bG gb r t f m vG j gs):gb<W.heap.size:=(Array.getElem?_eq_some_iff.1 h.box).1
theorem OutI.cells (h:OutI W bG gb r t f m vG j gs):W.cell? ⟨gb,0,D⟩=some (G I r)∧W.cell? ⟨gb,1,D⟩=some (G I t)∧W.cell? ⟨gb,2,D⟩=some (G I f)∧W.cell? ⟨gb,3,D⟩=some (G I m)∧W.cell? ⟨gb,4,D⟩=some vG:=by
 have hh:=h.box;exact ⟨by simp [Q,hh],by simp [Q,hh],by simp [Q,hh],by simp [Q,hh],by simp [Q,hh]⟩
theorem OutI.free (h:OutI W bG gb r t f m vG j gs) (i:Nat):W.frozen? ⟨gb,i,D⟩=false:=by
 have hh:=h.box;simp [World.frozen?,hh]
theorem OutI.keep (h:OutI W bG gb r t f m vG j gs) (h1:W'.heap[gb]? = W.heap[gb]?) (h2:∀ b,vG.ownBlock=some b→W'.heap[b]? = W.heap[b]?):OutI W' bG gb r t f m vG j gs:=
 ⟨h1.trans h.box,za3 h.own h2⟩
theorem OutI.below (h:OutI W bG gb r t f m vG j gs) (hb:Below W.heap.size W W'):OutI W' bG gb r t f m vG j gs:=
 h.keep (hb.block gb h.lt) fun b e=>hb.block b (h.own.lt b e).2
theorem SndI.lt (h:SndI W base bS g gt gr a0 a1 a2 a3 a4 a5 nm Ln L v7 v8 ys K c vS ns k ex):gt<W.heap.size:=(Array.getElem?_eq_some_iff.1 h.box).1
theorem SndI.cells (h:SndI W base bS g gt gr a0 a1 a2 a3 a4 a5 nm Ln L v7 v8 ys K c vS ns k ex):W.cell? ⟨gt,0,D⟩=some c∧W.cell? ⟨gt,1,D⟩=some vS∧W.cell? ⟨gt,2,D⟩=some (u D 0 0):=by
 have hh:=h.box;exact ⟨by simp [Q,hh],by simp [Q,hh],by simp [Q,hh]⟩
theorem SndI.free (h:SndI W base bS g gt gr a0 a1 a2 a3 a4 a5 nm Ln L v7 v8 ys K c vS ns k ex) (j:Nat):W.frozen? ⟨gt,j,D⟩=false:=by
 have hh:=h.box;simp [World.frozen?,hh]
theorem SndI.keep (h:SndI W base bS g gt gr a0 a1 a2 a3 a4 a5 nm Ln L v7 v8 ys K c vS ns k ex) (hs:W.heap.size≤W'.heap.size) (hk:∀ b,b<W.heap.size→(K b∨some b∈[some g,nm,v7.ownBlock,some gt,vS.ownBlock,some gr])→W'.heap[b]? = W.heap[b]?) :
 SndI W' base bS g gt gr a0 a1 a2 a3 a4 a5 nm Ln L v7 v8 ys K c vS ns k ex:=by
 have hr:∀ b,some b∈[some g,nm,v7.ownBlock,some gt,vS.ownBlock,some gr]→W'.heap[b]? = W.heap[b]? := fun b hb=>hk b (h.frm.lt b (by simp at hb ⊢;rcases hb with q | q | q | q | q | q <;> simp [q])) (.inr hb)
 have hK:KeepOn K W W':=fun b hb=>hk b (h.frm.kl b hb).1 (.inl hb)
 exact ⟨h.cp.kept (hr g (by simp)),h.num.kept (fun m hm=>hr m (by simp [hm])),za3 h.own7 (fun b hb=>hr b (by simp [hb])),h.ysL,fun y hy=>(h.sig y hy).mono (fun _ q=>q) hK,
  (hr gt (by simp)).trans h.box,za3 h.ownS (fun b hb=>hr b (by simp [hb])),(hr gr (by simp)).trans h.res,h.frm.mono hs⟩
theorem SndI.below (h:SndI W base bS g gt gr a0 a1 a2 a3 a4 a5 nm Ln L v7 v8 ys K c vS ns k ex) (hb:Below W.heap.size W W'):SndI W' base bS g gt gr a0 a1 a2 a3 a4 a5 nm Ln L v7 v8 ys K c vS ns k ex:=
 h.keep hb.size fun b hlt _=>hb.block b hlt
theorem SndI.drew (h:SndI W base bS g gt gr a0 a1 a2 a3 a4 a5 nm Ln L v7 v8 ys K c vS ns k ex):SndI W.drew base bS g gt gr a0 a1 a2 a3 a4 a5 nm Ln L v7 v8 ys K c vS ns k ex:=h.keep (J _) fun _ _ _=>rfl
theorem OutI.drew (h:OutI W bG gb r t f m vG j gs):OutI W.drew bG gb r t f m vG j gs:=h.keep rfl fun _ _=>rfl
theorem SndI.numbered (h:SndI W base bS g gt gr a0 a1 a2 a3 a4 a5 nm Ln L v7 v8 ys K c vS ns k ex) {nm':Option Nat} {a:PubE} (hc:CpB W' g a0 a1 a2 a3 a4 a5 nm' v7 v8) (hn:NumS W' g nm' (Ln++[a])) (hf:∀ m,nm'=some m→nm=some m∨W.heap.size≤m) (hk:KB (fun b=>b=g∨nm=some b) W W') :
 SndI W' base bS g gt gr a0 a1 a2 a3 a4 a5 nm' (Ln++[a]) L v7 v8 ys K c vS ns k ex:=by
 have n1:∀ (i:Nat) (b:Nat),i≠0→i≠1→(some g::nm::v7.ownBlock::some gt::vS.ownBlock::some gr::ex)[i]? = some (some b)→W'.heap[b]? = W.heap[b]? := fun i b i0 i1 hb =>
  hk.block b (h.frm.role hb) (by
   rintro (rfl | q)
   · exact h.frm.neb (i:=i) (j:=0) i0 hb rfl rfl
   · exact h.frm.neb (i:=i) (j:=1) i1 hb rfl q.symm)
 have hK:KeepOn K W W':=fun b hb=>hk.block b (h.frm.kl b hb).1 (by
  rintro (rfl | q)
  · exact (h.frm.kl _ hb).2 (by simp)
  · exact (h.frm.kl _ hb).2 (by simp [q]))
 have hfr:Frm W'.heap.size K ((some g::nm::v7.ownBlock::some gt::vS.ownBlock::some gr::ex).set 1 nm'):=by
  by_cases e:nm'=nm
  · rw [e,zde rfl];exact h.frm.mono hk.size
  · refine h.frm.set hk.size fun b q => ?_
    subst q
    exact ⟨(hf b rfl).resolve_left (fun q=>e q.symm),(hn.lt b rfl).1⟩
 exact ⟨hc,hn,za3 h.own7 fun b hb=>n1 2 b (by decide) (by decide) (by simp [hb]),h.ysL,fun y hy=>(h.sig y hy).mono (fun _ q=>q) hK,
  (n1 3 gt (by decide) (by decide) rfl).trans h.box,za3 h.ownS fun b hb=>n1 4 b (by decide) (by decide) (by simp [hb]),(n1 5 gr (by decide) (by decide) rfl).trans h.res,hfr⟩
theorem SndI.sent (h:SndI W base bS g gt gr a0 a1 a2 a3 a4 a5 nm Ln L v7 v8 ys K c vS ns k ex) {v':Value} {k':Nat} {ns':List Value} (hg:W.grownBy W2 vS.ownBlock) (hv:v'.ownBlock=vS.ownBlock∨v'.ownBlock=some W.heap.size) (ho:W2.ownsRow bS 3 1 v' k' ns') :
 SndI (W2.setCell ⟨gt,1,D⟩ v') base bS g gt gr a0 a1 a2 a3 a4 a5 nm Ln L v7 v8 ys K c v' ns' k' ex:=by
 have hK:KeepOn K W W2:=h.frm.keep hg (i:=4) rfl;have r0:=h.frm.other (b:=g) hg (i:=4) (j:=0) rfl (by decide) rfl;have r3:=h.frm.other (b:=gt) hg (i:=4) (j:=3) rfl (by decide) rfl;have hgt:∀ b,b≠gt→(W2.setCell ⟨gt,1,D⟩ v').heap[b]? = W2.heap[b]? := fun b hb=>heap_setCell_other W2 ⟨gt,1,D⟩ b v' hb
 have nb:∀ (i:Nat) (b:Nat),i≠3→(some g::nm::v7.ownBlock::some gt::vS.ownBlock::some gr::ex)[i]? = some (some b)→b≠gt:=fun i b hi hb q=>h.frm.neb (i:=i) (j:=3) hi hb rfl (by rw [q])
 have hfr:Frm W2.heap.size K ((some g::nm::v7.ownBlock::some gt::vS.ownBlock::some gr::ex).set 4 v'.ownBlock):=by
  rcases hv with e | e
  · rw [e,zde rfl];exact h.frm.mono hg.size
  · refine h.frm.set hg.size fun b q => ?_
    rw [e] at q
    cases q
    exact ⟨J _,(ho.lt _ e).2⟩
 refine ⟨h.cp.kept ((hgt g (nb 0 g (by decide) rfl)).trans r0),h.num.kept fun m hm=>(hgt m (nb 1 m (by decide) (by simp [hm]))).trans (h.frm.other hg (i:=4) (j:=1) rfl (by decide) (by simp [hm])),
  za3 (h.frm.row hg (i:=4) (j:=2) rfl (by decide) rfl h.own7) fun b hb=>hgt b (nb 2 b (by decide) (by simp [hb])),h.ysL,fun y hy=>((h.sig y hy).mono (fun _ q=>q) hK).mono (fun _ q=>q) (fun b hb=>hgt b fun q=>(h.frm.kl b hb).2 (by simp [q])),?_,?_,(hgt gr (nb 5 gr (by decide) rfl)).trans ((h.frm.other hg (i:=4) (j:=5) rfl (by decide) rfl).trans h.res),?_⟩
 · rw [heap_setCell_same W2 gt 1 _ _ _ (r3.trans h.box)]
   rfl
 · refine za3 ho fun b hb=>hgt b fun q => ?_
   have h3:=hfr.neb (i:=4) (j:=3) (by decide) (b:=b) (by simp [hb]) rfl
   exact h3 (by rw [q])
 · rw [X]
   exact hfr
theorem SndI.signal (h:SndI W base bS g gt gr a0 a1 a2 a3 a4 a5 nm Ln L v7 v8 ys K c vS ns k [some gb,vG.ownBlock]) (o:OutI W bG gb r t f m vG j gs) {v':Value} {j':Nat} {gs':List Value} (hg:W.grownBy W2 vG.ownBlock) (hv:v'.ownBlock=vG.ownBlock∨v'.ownBlock=some W.heap.size) (ho:W2.ownsRow bG 3 1 v' j' gs') :
 SndI (W2.setCell ⟨gb,4,D⟩ v') base bS g gt gr a0 a1 a2 a3 a4 a5 nm Ln L v7 v8 ys K c vS ns k [some gb,v'.ownBlock]∧OutI (W2.setCell ⟨gb,4,D⟩ v') bG gb r t f m v' j' gs':=by
 have r5:=h.frm.other (b:=gb) hg (i:=7) (j:=6) rfl (by decide) rfl;have hgt:∀ b,b≠gb→(W2.setCell ⟨gb,4,D⟩ v').heap[b]? = W2.heap[b]? := fun b hb=>heap_setCell_other W2 ⟨gb,4,D⟩ b v' hb
 have hfr:Frm W2.heap.size K ((some g::nm::v7.ownBlock::some gt::vS.ownBlock::some gr::[some gb,vG.ownBlock]).set 7 v'.ownBlock):=by
  rcases hv with e | e
  · rw [e,zde rfl];exact h.frm.mono hg.size
  · refine h.frm.set hg.size fun b q => ?_
    rw [e] at q
    cases q
    exact ⟨J _,(ho.lt _ e).2⟩
 have nb:∀ (i:Nat) (b:Nat),i≠6→(some g::nm::v7.ownBlock::some gt::vS.ownBlock::some gr::[some gb,vG.ownBlock])[i]? = some (some b)→b≠gb:=fun i b hi hb q=>h.frm.neb (i:=i) (j:=6) hi hb rfl (by rw [q])
 have key:∀ b,b<W.heap.size→(K b∨some b∈[some g,nm,v7.ownBlock,some gt,vS.ownBlock,some gr])→(W2.setCell ⟨gb,4,D⟩ v').heap[b]? = W.heap[b]?:=by
  intro b hb hq
  rcases hq with hq | hq
  · exact (hgt b fun q=>(h.frm.kl b hq).2 (by simp [q])).trans (h.frm.keep hg (i:=7) rfl b hq)
  · obtain ⟨i,hi⟩:=List.getElem?_of_mem hq
    have hi5:i<6:=(List.getElem?_eq_some_iff.1 hi).1
    have hi':(some g::nm::v7.ownBlock::some gt::vS.ownBlock::some gr::[some gb,vG.ownBlock])[i]? = some (some b):=by
     rw [← hi]
     rcases i with _ | _ | _ | _ | _ | _ | i
     · rfl
     · rfl
     · rfl
     · rfl
     · rfl
     · rfl
     · omega
    exact (hgt b (nb i b (by omega) hi')).trans (h.frm.other hg (i:=7) (j:=i) rfl (by omega) hi')
 have h1:=h.keep (W':=W2.setCell ⟨gb,4,D⟩ v') (by rw [X];exact hg.size) key;refine ⟨⟨h1.cp,h1.num,h1.own7,h1.ysL,h1.sig,h1.box,h1.ownS,h1.res,by rw [X];exact hfr⟩,?_,?_⟩
 · rw [heap_setCell_same W2 gb 4 _ _ _ (r5.trans o.box)]
   rfl
 · refine za3 ho fun b hb=>hgt b fun q => ?_
   have h3:=hfr.neb (i:=7) (j:=6) (by decide) (b:=b) (by simp [hb]) rfl
   exact h3 (by rw [q])
theorem zkl {α:Type} {R:World→(Nat→Prop)→List Value→α→Prop} {size base n c:Nat} {e:TypeId} {w:World} {S:Nat→Prop} {A:Option Addr} {xs:List α} {fc:α→List Value}
 (h:w.ownsRow base e size (u A n c) n (xs.flatMap fc)) (hn:xs.length=n) (hf:∀ x∈xs,(fc x).length=size) (hR:∀ x∈xs,R w S (fc x) x) (hS:∀ b,(u A n c).ownBlock=some b→S b):Rw R size w S A n xs:=by
 have h0:Rws (fun w' _ cs x=>R w' S cs x) size w w.heap.size A n xs:=Rws.of_own (f:=fc) (base:=base) (e:=e) (c:=c) h hn hf hR;refine ⟨hn,fun hpos => ?_⟩
 obtain ⟨b,o,e1,_,hr⟩:=h0.2 hpos;exact ⟨b,o,e1,hS b (by rw [e1];rfl),hr⟩
theorem SndI.published {a:PubE} {A:Option Addr} {q:Nat} (h:SndI W base bS g gt gr a0 a1 a2 a3 a4 a5 nm Ln L v7 v8 ys K c vS ns k [some gb,vG.ownBlock]) (o:OutI W bG gb r t f m vG j gs) (hG:vG = u A a.sigs.length q) (hj:j=a.sigs.length) (hq:a.sigs.length≤q∧q≤maxLen)
 (hgs:gs=a.sigs.flatMap fun n=>[G I n]) {v':Value} (hg:W.grownBy W2 v7.ownBlock) (hv:v'.ownBlock=v7.ownBlock∨v'.ownBlock=some W.heap.size) (ho:W2.ownsRow base 97 5 v' (L.length+1) (ys.flatMap zd7++zd7 (a,A,q))) :
 SndI (W2.setCell ⟨g,7,D⟩ v') base bS g gt gr a0 a1 a2 a3 a4 a5 nm Ln (L++[a]) v' v8 (ys++[(a,A,q)]) (fun b=>K b∨vG.ownBlock=some b) c vS ns k []:=by
 have hK:KeepOn K W W2:=h.frm.keep hg (i:=2) rfl;have r0:=h.frm.other (b:=g) hg (i:=2) (j:=0) rfl (by decide) rfl;have r3:=h.frm.other (b:=gt) hg (i:=2) (j:=3) rfl (by decide) rfl;have hgt:∀ b,b≠g→(W2.setCell ⟨g,7,D⟩ v').heap[b]? = W2.heap[b]? := fun b hb=>heap_setCell_other W2 ⟨g,7,D⟩ b v' hb
 have nb:∀ (i:Nat) (b:Nat),i≠0→(some g::nm::v7.ownBlock::some gt::vS.ownBlock::some gr::[some gb,vG.ownBlock])[i]? = some (some b)→b≠g:=fun i b hi hb z=>h.frm.neb (i:=i) (j:=0) hi hb rfl (by rw [z])
 have hfr:Frm W2.heap.size K ((some g::nm::v7.ownBlock::some gt::vS.ownBlock::some gr::[some gb,vG.ownBlock]).set 2 v'.ownBlock):=by
  rcases hv with e | e
  · rw [e,zde rfl];exact h.frm.mono hg.size
  · refine h.frm.set hg.size fun b z => ?_
    rw [e] at z
    cases z
    exact ⟨J _,(ho.lt _ e).2⟩
 have hfr2:Frm W2.heap.size (fun b=>K b∨vG.ownBlock=some b) [some g,nm,v'.ownBlock,some gt,vS.ownBlock,some gr]:=
  Frm.pop (o:=some gb) (l:=[some g,nm,v'.ownBlock,some gt,vS.ownBlock,some gr]) (Frm.pop (o:=D) (l:=[some g,nm,v'.ownBlock,some gt,vS.ownBlock,some gr,some gb]) (hfr.done (i:=7) (o:=vG.ownBlock) rfl))
 have hKK:KeepOn K W (W2.setCell ⟨g,7,D⟩ v'):=hK.trans fun b hb=>hgt b fun z=>(h.frm.kl b hb).2 (by simp [z])
 refine ⟨⟨?_⟩,h.num.kept fun b hb=>(hgt b (nb 1 b (by decide) (by simp [hb]))).trans (h.frm.other hg (i:=2) (j:=1) rfl (by decide) (by simp [hb])),?_,by rw [List.map_append,h.ysL];rfl,?_,?_,
  za3 (h.frm.row hg (i:=2) (j:=4) rfl (by decide) rfl h.ownS) fun b hb=>hgt b (nb 4 b (by decide) (by simp [hb])),(hgt gr (nb 5 gr (by decide) rfl)).trans ((h.frm.other hg (i:=2) (j:=5) rfl (by decide) rfl).trans h.res),by rw [X];exact hfr2⟩
 · rw [heap_setCell_same W2 g 7 _ _ _ (r0.trans h.cp.heap)]
   rfl
 · rw [List.length_append,List.flatMap_append,List.flatMap_cons,List.flatMap_nil,List.append_nil]
   refine za3 ho fun b hb=>hgt b fun z => ?_
   have h3:=hfr2.neb (i:=2) (j:=0) (by decide) (b:=b) (by simp [hb]) rfl
   exact h3 (by rw [z])
 · intro y hy
   rcases List.mem_append.1 hy with hy | hy
   · exact (h.sig y hy).mono (fun _ z => .inl z) hKK
   · simp at hy
     subst hy
     refine ⟨hq.1,hq.2,?_⟩
     have hown:(W2.setCell ⟨g,7,D⟩ v').ownsRow bG 3 1 vG j gs:=za3 (h.frm.row hg (i:=2) (j:=7) rfl (by decide) rfl o.own) fun b hb=>hgt b (nb 7 b (by decide) (by simp [hb]))
     subst hG hj hgs
     exact zkl (R:=IntK) (S:=fun b=>K b∨(u A a.sigs.length q).ownBlock=some b) hown rfl (fun _ _=>rfl) (fun _ _=>rfl) fun b e => .inr e
 · exact (hgt gt (nb 3 gt (by decide) rfl)).trans (r3.trans h.box)
theorem zcJ {w:World} {g:Nat} {cur:Array Value} {t:TypeId} (h:w.heap[g]? = some (.cells cur t (0,0))) (k:Nat):w.frozen? ⟨g,k,D⟩=false:=by simp [World.frozen?,h]
theorem SndI.midG (h:SndI W base bS g gt gr a0 a1 a2 a3 a4 a5 nm Ln L v7 v8 ys K c vS ns k [some gb,vG.ownBlock]) (o:OutI W bG gb r t f m vG j gs) (hg:W.grownBy W2 vG.ownBlock):W2.cell? ⟨gb,4,D⟩=some vG∧W2.frozen? ⟨gb,4,D⟩=false∧gb<W2.heap.size:=by
 have r5:=h.frm.other (b:=gb) hg (i:=7) (j:=6) rfl (by decide) rfl;exact ⟨(Z (a:=⟨gb,4,D⟩) r5).trans o.cells.2.2.2.2,zcJ (r5.trans o.box) 4,U o.lt hg.size⟩
theorem SndI.midS (h:SndI W base bS g gt gr a0 a1 a2 a3 a4 a5 nm Ln L v7 v8 ys K c vS ns k ex) (hg:W.grownBy W2 vS.ownBlock):W2.cell? ⟨gt,1,D⟩=some vS∧W2.frozen? ⟨gt,1,D⟩=false∧gt<W2.heap.size:=by
 have r5:=h.frm.other (b:=gt) hg (i:=4) (j:=3) rfl (by decide) rfl;exact ⟨(Z (a:=⟨gt,1,D⟩) r5).trans h.cells.2.1,zcJ (r5.trans h.box) 1,U h.lt hg.size⟩
theorem SndI.midP (h:SndI W base bS g gt gr a0 a1 a2 a3 a4 a5 nm Ln L v7 v8 ys K c vS ns k ex) (hg:W.grownBy W2 v7.ownBlock):W2.cell? ⟨g,7,D⟩=some v7∧W2.frozen? ⟨g,7,D⟩=false∧g<W2.heap.size:=by
 have r5:=h.frm.other (b:=g) hg (i:=2) (j:=0) rfl (by decide) rfl;exact ⟨(Z (a:=⟨g,7,D⟩) r5).trans h.cp.cells.2.2.2.2.2.2.2.1,zcJ (r5.trans h.cp.heap) 7,U h.cp.lt hg.size⟩
theorem SndI.keptG (h:SndI W base bS g gt gr a0 a1 a2 a3 a4 a5 nm Ln L v7 v8 ys K c vS ns k [some gb,vG.ownBlock]) (hg:W.grownBy W2 vG.ownBlock) (i:Nat) (v:Value):KeepOn K W (W2.setCell ⟨gb,i,D⟩ v):=
 (h.frm.keep hg (i:=7) rfl).trans fun b hb=>heap_setCell_other W2 ⟨gb,i,D⟩ b v fun z=>(h.frm.kl b hb).2 (by rw [show b=gb from z];simp)
theorem SndI.keptS (h:SndI W base bS g gt gr a0 a1 a2 a3 a4 a5 nm Ln L v7 v8 ys K c vS ns k ex) (hg:W.grownBy W2 vS.ownBlock) (i:Nat) (v:Value):KeepOn K W (W2.setCell ⟨gt,i,D⟩ v):=
 (h.frm.keep hg (i:=4) rfl).trans fun b hb=>heap_setCell_other W2 ⟨gt,i,D⟩ b v fun z=>(h.frm.kl b hb).2 (by rw [show b=gt from z];simp)
theorem SndI.keptP (h:SndI W base bS g gt gr a0 a1 a2 a3 a4 a5 nm Ln L v7 v8 ys K c vS ns k ex) (hg:W.grownBy W2 v7.ownBlock) (i:Nat) (v:Value):KeepOn K W (W2.setCell ⟨g,i,D⟩ v):=
 (h.frm.keep hg (i:=2) rfl).trans fun b hb=>heap_setCell_other W2 ⟨g,i,D⟩ b v fun z=>(h.frm.kl b hb).2 (by rw [show b=g from z];simp)
theorem SndI.keptN (h:SndI W base bS g gt gr a0 a1 a2 a3 a4 a5 nm Ln L v7 v8 ys K c vS ns k ex) (hk:KB (fun b=>b=g∨nm=some b) W W'):KeepOn K W W':=fun b hb=>hk.block b (h.frm.kl b hb).1 (by
 rintro (rfl | q)
 · exact (h.frm.kl _ hb).2 (by simp)
 · exact (h.frm.kl _ hb).2 (by simp [q]))
theorem OutI.numbered (o:OutI W bG gb r t f m vG j gs) (h:SndI W base bS g gt gr a0 a1 a2 a3 a4 a5 nm Ln L v7 v8 ys K c vS ns k [some gb,vG.ownBlock]) (hk:KB (fun b=>b=g∨nm=some b) W W'):OutI W' bG gb r t f m vG j gs:=by
 have n1:∀ (i:Nat) (b:Nat),i≠0→i≠1→(some g::nm::v7.ownBlock::some gt::vS.ownBlock::some gr::[some gb,vG.ownBlock])[i]? = some (some b)→W'.heap[b]? = W.heap[b]? := fun i b i0 i1 hb =>
  hk.block b (h.frm.role hb) (by
   rintro (rfl | q)
   · exact h.frm.neb (i:=i) (j:=0) i0 hb rfl rfl
   · exact h.frm.neb (i:=i) (j:=1) i1 hb rfl q.symm)
 exact o.keep (n1 6 gb (by decide) (by decide) rfl) fun b e=>n1 7 b (by decide) (by decide) (by simp [e])
theorem OutI.sent (o:OutI W bG gb r t f m vG j gs) (h:SndI W base bS g gt gr a0 a1 a2 a3 a4 a5 nm Ln L v7 v8 ys K c vS ns k [some gb,vG.ownBlock]) (hg:W.grownBy W2 vS.ownBlock) (v:Value):OutI (W2.setCell ⟨gt,1,D⟩ v) bG gb r t f m vG j gs:=by
 have n1:∀ (i:Nat) (b:Nat),i≠4→i≠3→(some g::nm::v7.ownBlock::some gt::vS.ownBlock::some gr::[some gb,vG.ownBlock])[i]? = some (some b)→(W2.setCell ⟨gt,1,D⟩ v).heap[b]? = W.heap[b]? := fun i b i4 i3 hb =>
  (heap_setCell_other W2 ⟨gt,1,D⟩ b v fun z=>h.frm.neb (i:=i) (j:=3) i3 hb rfl (by rw [show b=gt from z])).trans (h.frm.other hg (i:=4) (j:=i) rfl i4 hb)
 exact o.keep (n1 6 gb (by decide) (by decide) rfl) fun b e=>n1 7 b (by decide) (by decide) (by simp [e])
theorem zgj {B:Nat} {row:Option Nat} (hg:W.grownBy W2 row) (hB:B≤W.heap.size) (hr:∀ b,row=some b→B≤b):Below B W W2:=
 ⟨hg.os,hg.tape,hg.output,hg.size,fun b hb=>hg.block b (U hb hB) fun q=>by have:=hr b q.symm;omega⟩
end
end Go.Proofs.YtjkimieapfbhbaaGreatDoor
