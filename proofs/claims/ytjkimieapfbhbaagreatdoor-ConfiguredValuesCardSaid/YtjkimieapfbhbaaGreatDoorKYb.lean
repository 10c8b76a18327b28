/-
 The reference's tests of a relay's rules.
-/
import Derived.Test.YtjkimieapfbhbaaGreatDoorKVd
import Derived.Test.YtjkimieapfbhbaaGreatDoorRSf
import Derived.Test.YtjkimieapfbhbaaGreatDoorKRSe
import Derived.Test.YtjkimieapfbhbaaGreatDoorKDup
import Derived.RegionTactic
import Derived.Deep.DeepCutAuto
import Derived.Deep.RegionLaw
import Derived.Test.YtjkimieapfbhbaaGreatDoorKVg
set_option maxRecDepth 100000
set_option maxHeartbeats 8000000
open Go.Value renaming int → d, slice → G, string → H, bool → I, agg → O, ownBlock → jb
open Go.IntKind renaming i64 → D
open Option renaming none → F
open Go.Obj renaming cells → J
open Go.Proofs.Tryz renaming prog → L
open And renaming intro → M
open Go.World renaming cell?_of_block → R, cell? → X, frozen?_of_block → Z, size_alloc → ja, ownsRow_nil → jd
open Nat renaming le_refl → T, lt_of_lt_of_le → U, lt_succ_self → V, zero_le → Y, le_of_lt → jc, not_lt_zero → je
namespace Go.Proofs.YtjkimieapfbhbaaGreatDoor
open Go.RowKit
def zjj (xs:List ByteArray) (n:Nat) (s:ByteArray) (w:World) (e:Ending) (w':World):Prop:=∃ m:Int,(m<0→seen xs n s=false)∧e = .returned (d D m)∧w=w'
theorem zcw {base n c:Nat} {A:Option Addr} {xs:List ByteArray} {s:ByteArray} {w:World} (ho:w.ownsRow base 9 1 (G A n c) n ((xs.take n).map .string)) (hn:n≤xs.length) (hl:xs.length≤1000) (hs:∀ x∈xs,x.size≤maxLen) :
 Calls L 50 #[G A n c,H s] w (zjj xs n s w):=by
 have hl2:(xs.take n).length=n:=by rw [List.length_take];omega
 have:=zcd A c w.heap.size (xs.take n) s w (by rw [hl2];exact Rws.of_ownStr ho fun x hx=>hs x (List.mem_of_mem_take hx)) (by rw [hl2];omega);rw [hl2] at this;refine this.mono ?_
 rintro e w' ⟨he,hw⟩
 refine ⟨_,fun h => ?_,he,hw⟩
 have:=zil h
 rwa [zgY] at this
theorem zc3:zaq.length=16:=rfl
theorem zeX:∀ x∈zaq,x.size≤maxLen:=by
 intro x hx;have h:∀ x∈zaq,x.size≤100:=by decide +kernel
 have:=h x hx;unfold maxLen;omega
theorem zeZ (s:ByteArray) (w:World):Calls L 87 #[H s] w (NoSays (seen zaq zaq.length s=false) w):=by
 have ho:=zcO (w:=w) (t := 9) (zaq.map .string) (by rw [List.length_map,zc3];unfold maxLen;omega);rw [List.length_map,zc3] at ho;have HO:Hid ((w.alloc (.cells (zaq.map H).toArray 9)).ownsRow w.heap.size 9 1 (G (some ⟨w.heap.size,0,F⟩) 16 16) 16 ((zaq.take 16).map .string)):=Hd ho;clear ho;have hb:=zaa w (J (zaq.map H).toArray 9);have C:Calls L 50 #[G (some ⟨w.heap.size,0,F⟩) 16 16,H s] (w.alloc (.cells (zaq.map H).toArray 9)) (zjj zaq 16 s (w.alloc (.cells (zaq.map H).toArray 9))):=zcw HO.out (T _) (by rw [zc3];omega) zeX;have HC:=Hd C;clear C;go_enter Tryz.func87,Tryz.ntmps87;go_wp2_with fail
 refine HC.out.mono ?_
 rintro e w1 ⟨m,hm,rfl,rfl⟩
 by_cases h0:0≤m
 · go_wp2
   go_ret
   exact NoSays.of hb fun h=>(by simp at h <;> omega)
 · go_wp2
   go_ret
   exact NoSays.of hb fun h=>hm (by omega)
def zft (s:ByteArray) (k:Nat):Prop:=∀ (i:Nat) (c:UInt8),i<k→s.data[i]? = some c→32≤c.toNat∧c.toNat≤126∧c.toNat≠34
theorem zf7 {s:ByteArray} {k:Nat} (hk:k<s.size) (h:zft s k) (hc:32≤s[k].toNat∧s[k].toNat≤126∧s[k].toNat≠34):zft s (k+1):=by
 intro i c hi hx
 rcases Nat.lt_succ_iff_lt_or_eq.1 hi with h' | rfl
 · exact h i c h' hx
 · have:c=s[i]:=by
    rw [Array.getElem?_eq_getElem (by simpa using hk)] at hx;exact (Option.some.inj hx).symm
   rw [this];exact hc
def strs (xs:List ByteArray) (k:Nat):List Value:=(xs.take k).map H
theorem zc6 {xs:List ByteArray} {k:Nat} {x:ByteArray} (h:xs[k]? = some x):strs xs (k+1)=strs xs k++[H x]:=by
 unfold strs;rw [List.take_add_one,h];simp
def Gath (xs:List ByteArray) (P:Nat→Prop) (B:Nat) (W:World) (v i:Value) (wr:World):Prop:=
 ∃ k:Nat,k≤xs.length∧i = d D k∧wr.ownsRow B 9 1 v k (strs xs k)∧P k∧Below B W wr
def zjm (rs:List (ByteArray × ByteArray)) (k:Nat):Prop:=∀ (j:Nat) (y:ByteArray × ByteArray),j<k→rs[j]? = some y→RuleF rs j y
theorem zhN (cs:List Value) (r:RelayM) (B:Nat) (w:World) (hB:B≤w.heap.size) (h:RelayC w B cs r) (hn:r.rules.length≤16) :
 Calls L 61 #[.agg cs.toArray] w (ErrSays (∀ k y,r.rules[k]? = some y→RuleF r.rules k y) w):=by
 obtain ⟨i0,hi,hz0,hz1,hz2⟩:=info_parts zbn;obtain ⟨c49,h49,A1,k1,e1,l1,m1,R1⟩:=h.rules
 cases e1
 clear h;have q49:=zaI (w:=w) (t := 60) h49;have hb:=zaa w (J cs.toArray 60);have g0:w.heap.size<(w.alloc (J cs.toArray 60)).heap.size:=by simp
 have hnl:(r.rules.map (·.1)).length=r.rules.length:=List.length_map ..;have HNL:=Hd hnl
 have hsz:∀ x∈r.rules.map (·.1),x.size≤maxLen:=by
  intro x hx;obtain ⟨y,hy,rfl⟩:=List.mem_map.1 hx;obtain ⟨cs',hc⟩:=R1.all_ y hy;exact hc.2.1
 have HSZ:=Hd hsz;have HR:=Hd R1;clear h49 hnl hsz R1;go_enter Tryz.func61,Tryz.ntmps61;go_wp2;generalize w.alloc (J cs.toArray 60)=W at *
 go_loopw [3,4] (Gath (r.rules.map (·.1)) (zjm r.rules) W.heap.size W) (fun _ i _=>r.rules.length-(intOf i).toNat)
 case atStart=>exact ⟨0,Y _,rfl,jd _ _ _ _,fun _ _ h=>absurd h (je _),Below.refl _ _⟩
 case round =>
  obtain ⟨k,hk,rfl,hown,hu,hbel⟩:=hrel;have hk':k≤r.rules.length:=by have:=HNL.out;omega
  clear hk;have HU:=Hd hu;have hw:=Below.then hb hbel
  have hs:=hbel.size;have p49:=(hbel.cell (p:=⟨w.heap.size,49,F⟩) g0).trans q49;have gw:w.heap.size<wr.heap.size:=by omega
  clear hu
  by_cases hlt:k<r.rules.length
  · obtain ⟨b,o,ds,x,rfl,hbB,hx,-,⟨rfl,hx1,hx2⟩,hat⟩:=(HR.out.mono RuleC.mono (T _) (hw.mono hB)).at_ hlt
    obtain ⟨Av,cv,rfl,hcv,hmv⟩:=zac hown
    have HO:=Hd hown
    have d0:wr.cell? ⟨b,o+k*2,F⟩=some (H x.1):=by simpa using hat 0 _ rfl
    have d1:wr.cell? ⟨b,o+k*2+1,F⟩=some (H x.2):=hat 1 _ rfl
    have hb':b<wr.heap.size:=by omega
    have HX:=Hd hx
    have hk0:(0:Int)≤(k:Int):=by omega
    have hk1:(k:Int)<(r.rules.length:Int):=by omega
    have hm2:x.2.size≤9223372036854775807:=by unfold maxLen at hx2;omega
    clear hx hat hown
    have hbx:=zaa wr (J #[H x.1,H x.2] 148)
    go_wp2_with fail
    refine (zbf x.1 _ hx1).mono ?_
    rintro e w1 ⟨b1,t1,rfl,rfl⟩
    cases b1
    · go_wp2
      go_ret
      exact ErrSays.no (Below.then hw hbx) (by decide)
    have HT1:=Hd (t1 rfl)
    clear t1
    go_wp2_with fail
    refine (zeZ x.1 _).mono ?_
    rintro e w2 ⟨b2,t2,rfl,j2⟩
    have hbx2:=Below.then hbx j2
    have g2:wr.heap.size<w2.heap.size:=by have:=j2.size;simp only [ja] at this;omega
    have g3:w.heap.size<w2.heap.size:=by omega
    obtain ⟨hc2,hf2⟩:=zcv j2
    cases b2
    case true =>
     go_wp2
     go_ret
     exact ErrSays.no (Below.then hw hbx2) (by decide)
    have HT2:=Hd (t2 rfl)
    clear t2
    have hown2:=zab HO.out hbx2 (T _)
    have HO2:=Hd hown2
    clear hown2
    go_wp2_with fail
    refine (zcw (xs:=r.rules.map (·.1)) HO2.out (by have:=HNL.out;omega) (by have:=HNL.out;omega) HSZ.out).mono ?_
    rintro e w3 ⟨m,t3,rfl,rfl⟩
    by_cases h0:0≤m
    · go_wp2
      go_ret
      exact ErrSays.no (Below.then hw hbx2) (by decide)
    have HT3:=Hd (t3 (by omega))
    clear t3
    by_cases hl:(x.2.size:Int)≤120
    case neg =>
     have hl':(120:Int)<(x.2.size:Int):=by omega
     go_wp2
     go_ret
     exact ErrSays.no (Below.then hw hbx2) (by decide)
    go_wp2
    go_loop [6] (fun j=>∃ l:Nat,l≤x.2.size∧j = d D l∧zft x.2 l) (fun j=>x.2.size-(intOf j).toNat)
    case atStart=>exact ⟨0,Y _,rfl,fun _ _ h=>absurd h (je _)⟩
    case round =>
     obtain ⟨l,hl3,rfl,htx⟩:=hrel
     have HTX:=Hd htx
     clear htx
     by_cases hlt2:l<x.2.size
     · by_cases hch:32≤(x.2[l].toNat:Int)∧(x.2[l].toNat:Int)≤126∧(x.2[l].toNat:Int)≠34
       · obtain ⟨hc1,hc22,hc3⟩:=hch
         have hc4:((x.2[l].toNat:Int) == 34)=false:=by simpa using hc3
         go_wp2
         go_round
         case rel=>exact ⟨l+1,by omega,by go_num,zf7 hlt2 HTX.out ⟨by omega,by omega,by omega⟩⟩
         case measure=>simp [intOf];omega
       · go_wp2
         all_goals first
          | (go_ret;exact ErrSays.no (Below.then hw hbx2) (by decide))
          | (exfalso;omega)
          | (exfalso;simp at *;omega)
     · obtain rfl:l=x.2.size:=by omega
       have hrf:RuleF r.rules k x:=⟨HT1.out,HT2.out,HT3.out,by omega,fun i c hc=>HTX.out i c (by have:=(Array.getElem?_eq_some_iff.1 hc).1;simpa using this) hc⟩
       have HRF:=Hd hrf
       have hbel2:=hbel.trans (hbx2.mono hs)
       clear hrf
       go_wp2_with (first
        | (at_builtin;refine zaK _ _ 22 rfl rfl Tryz.underlying22 hi hz0 hz1 hz2 rfl (by decide) rfl HO2.out hbel2 _ rfl rfl rfl (by simp [Value.oneCell']) (by omega) (by unfold maxLen;omega) (Nat.le_trans hs (by omega)) ?_;intro v' w' hown' hbel' _))
       go_roundw
       case rel=>exact ⟨k+1,by have:=HNL.out;omega,by go_num,by rw [zc6 (zey (·.1) HX.out)];exact hown',zbB HU.out HX.out HRF.out,hbel'⟩
       case measure=>simp [intOf];omega
  · obtain rfl:k=r.rules.length:=by omega
    go_wp2
    go_ret
    exact ErrSays.of hw fun _ k y hy=>HU.out k y (List.getElem?_eq_some_iff.1 hy).1 hy
structure BldS (W:World) (g m:Nat) (S:StatM) (n:Nat) (v1 v2 v3 v4:Value):Prop where
 heap:W.heap[g]? = some (.cells #[H ⟨#[]⟩,v1,v2,v3,v4,.map (some m)] 235 (0,0))
 ne:m≠g
 map:MapS L 9 4 W m n (zcb S.names n)
theorem BldS.lt {W:World} {g m:Nat} {S:StatM} {n:Nat} {v1 v2 v3 v4:Value} (h:BldS W g m S n v1 v2 v3 v4):g<W.heap.size:=(Array.getElem?_eq_some_iff.1 h.heap).1
theorem BldS.cells {W:World} {g m:Nat} {S:StatM} {n:Nat} {v1 v2 v3 v4:Value} (h:BldS W g m S n v1 v2 v3 v4) :
 W.cell? ⟨g,1,F⟩=some v1∧W.cell? ⟨g,2,F⟩=some v2∧W.cell? ⟨g,3,F⟩=some v3∧W.cell? ⟨g,4,F⟩=some v4∧W.cell? ⟨g,5,F⟩=some (.map (some m)):=by
 have hh:=h.heap;exact ⟨by simp [X,hh],by simp [X,hh],by simp [X,hh],by simp [X,hh],by simp [X,hh]⟩
theorem BldS.free {W:World} {g m:Nat} {S:StatM} {n:Nat} {v1 v2 v3 v4:Value} (h:BldS W g m S n v1 v2 v3 v4) (k:Nat):W.frozen? ⟨g,k,F⟩=false:=by
 have hh:=h.heap;simp [World.frozen?,hh]
theorem BldS.grown {W W':World} {g m:Nat} {S:StatM} {n:Nat} {v1 v2 v3 v4:Value} {row:Option Nat} (h:BldS W g m S n v1 v2 v3 v4) (hg:W.grownBy W' row) (h1:some g≠row) (h2:some m≠row):BldS W' g m S n v1 v2 v3 v4:=
 ⟨(hg.block g h.lt h1).trans h.heap,h.ne,h.map.kept (hg.block m h.map.block h2)⟩
theorem BldS.below {W W':World} {g m B:Nat} {S:StatM} {n:Nat} {v1 v2 v3 v4:Value} (h:BldS W g m S n v1 v2 v3 v4) (hb:Below B W W') (h1:g<B) (h2:m<B):BldS W' g m S n v1 v2 v3 v4:=
 ⟨(hb.block g h1).trans h.heap,h.ne,h.map.kept (hb.block m h2)⟩
theorem zb2 (w:World) (g i:Nat) (v:Value):w.grownBy (w.setCell ⟨g,i,F⟩ v) (some g):=
 ⟨rfl,rfl,rfl,by rw [World.size_setCell];exact T _,fun b _ hne=>heap_setCell_other w ⟨g,i,F⟩ b v (fun q=>hne (by rw [q]))⟩
theorem zaO {w w':World} {m:Nat} (h:w.grownBy w' (some m)) (hm:m≤w.heap.size):Below m w w' :=
 ⟨h.os,h.tape,h.output,h.size,fun b hb=>h.block b (by omega) (fun q=>by injection q;omega)⟩
theorem zb0 {w w':World} {base n size m:Nat} {e:TypeId} {v:Value} {xs:List Value} (h:w.ownsRow base e size v n xs) (hg:w.grownBy w' (some m)) (hm:m<base):w'.ownsRow base e size v n xs:=
 h.kept hg (by
  rcases hb:v.ownBlock with _ | b
  · exact .inl rfl
  · refine .inr fun q => ?_
    cases q
    have:=(h.lt m hb).1
    omega)
theorem BldS.put {W W':World} {g m:Nat} {S:StatM} {n:Nat} {v1 v2 v3 v4:Value} {s:ByteArray} (h:BldS W g m S n v1 v2 v3 v4) (hs:S.names[n]? = some s) (hm:MapS L 9 4 W' m (n+1) (putS (zcb S.names n) s (I true))) (hg:W.grownBy W' (some m)):BldS W' g m S (n+1) v1 v2 v3 v4:=
 ⟨(hg.block g h.lt (fun q=>h.ne (Option.some.inj q).symm)).trans h.heap,h.ne,by rw [zbt hs];exact hm⟩
theorem zed (g m:Nat) (S:StatM) (n:Nat) (v1 v2 v3 v4:Value) (s:ByteArray) (w:World) (h:BldS w g m S n v1 v2 v3 v4) (hn:NameOk s) (hs:seen S.names n s=false) :
 Calls L 129 #[.pointer (some ⟨g,0,F⟩),H s] w fun e w'=>e = .returned (d D 0)∧w=w':=by
 have hsz:s.size≤maxLen:=by have:=hn.len;unfold maxLen;omega
 have hlk:=h.map.look (t := 233) Tryz.underlying9 Tryz.underlying233 (zbQ _) hsz false;rw [zc4,hs] at hlk;obtain ⟨-,-,-,-,c5⟩:=h.cells;have HN:=Hd hn;clear h hs hn;go_enter Tryz.func129,Tryz.ntmps129;go_wp2_with fail
 refine (zdp s _ HN.out).mono ?_
 rintro e w1 ⟨rfl,rfl⟩
 go_wp2;go_ret
 exact ⟨rfl,rfl⟩
def zhZ (g m B:Nat) (t:TypeId) (size:Nat) (S:StatM) (n k:Nat) (cells:List Value) (f:Value→Value × Value × Value × Value) (w:World) (e:Ending) (w':World):Prop:=
 ∃ v:Value,e = .returned (d D 0)∧BldS w' g m S n (f v).1 (f v).2.1 (f v).2.2.1 (f v).2.2.2∧w'.ownsRow (g+1) t size v k cells∧Below B w w'
theorem bus_ok (g m:Nat) (S:StatM) (k:Nat) (v1 v2 v3 v4:Value) (s:ByteArray) (w:World) (hmg:m<g) (h:BldS w g m S k v1 v2 v3 v4) (ho:w.ownsRow (g+1) 9 1 v1 k (strs S.buses k)) (hk:k≤4) (hx:S.buses[k]? = some s) (hn:NameOk s) (hs:seen S.names k s=false) :
 Calls L 94 #[.pointer (some ⟨g,0,F⟩),H s] w (zhZ g m m 9 1 S (k+1) (k+1) (strs S.buses (k+1)) (fun v=>(v,v2,v3,v4)) w):=by
 obtain ⟨i0,hi,hz0,hz1,hz2⟩:=info_parts zbn;have hsz:s.size≤maxLen:=by have:=hn.len;unfold maxLen;omega
 obtain ⟨w1,hup,hm',hg⟩:=h.map.store (t := 233) Tryz.underlying9 Tryz.underlying233 (by unfold maxLen;omega) hsz (plainElem_bool Tryz.underlying4 true);have h1:=h.put (zdy hx) hm' hg;have hgl:=h.lt;obtain ⟨A,c,rfl,-,-⟩:=zac ho;have ho1:=zb0 ho hg (by omega);have hmw:=h.map.block;have H0:=Hd h;have H1:=Hd h1;have HO:=Hd ho1;have HN:=Hd hn;have HS:=Hd hs;have HG:=Hd hg;have HX:=Hd hx;obtain ⟨c1,-,-,-,c5⟩:=h.cells;obtain ⟨d1,-,-,-,d5⟩:=h1.cells;have f1:=h1.free 1;have hgl1:=h1.lt;clear h ho hm' hg h1 ho1 hn hs hx;go_enter Tryz.func94,Tryz.ntmps94;go_wp2_with fail
 refine (zed g m S k _ v2 v3 v4 s _ H0.out HN.out HS.out).mono ?_
 rintro e w2 ⟨rfl,rfl⟩
 go_wp2_with (first
  | (at_builtin;refine zaK _ _ 22 rfl rfl Tryz.underlying22 hi hz0 hz1 hz2 rfl (by decide) rfl HO.out (Below.refl _ _) _ rfl rfl rfl (by simp [Value.oneCell']) (by omega) (by unfold maxLen;omega) (by omega) ?_;intro v' w' hown' hbel' hsz';have e1:=(hbel'.cell (p:=⟨g,1,F⟩) (V g)).trans d1;have f1':=(hbel'.frozen (p:=⟨g,1,F⟩) (V g)).trans f1;have hgl':=U hgl1 hsz';have HB:=Hd hbel';have HW:=Hd hown';obtain ⟨A',c',rfl,-,-⟩:=zac hown';clear hbel' hown'))
 go_ret
 have h2:=H1.out.below HB.out (V g) (by omega);refine ⟨_,rfl,⟨?_,H1.out.ne,?_⟩,zb0 (by rw [zc6 HX.out];exact HW.out) (zb2 w' g 1 _) (V g),?_⟩
 · rw [heap_setCell_same w' g 1 _ _ _ h2.heap]
   rfl
 · exact h2.map.kept ((zb2 w' g 1 _).block m h2.map.block (fun q=>by injection q;omega))
 · exact ((zaO HG.out (by omega)).trans (HB.out.mono (by omega))).setCell (by show m≤g;omega) _
theorem zai {P:Program} {w:World} {ops:Array Oper} {o:Oper} {a:Act} {K:Act→World→Prop} {Q:Exit→Act→World→Prop} {E:Prop} (s x:Operand) (t:TypeId)
 {base:Nat} {e:TypeId} {i:TypeInfo} {z:Value} {size bytes:Nat} {v:Value} {n:Nat} {xs:List Value} {A:Option Addr} {m c:Nat} {news:List Value} (hgd:o.guard=F)
 (ho:o.op = .call { callee := .builtin .append,args := #[s,x],argTypes := #[t,t] })
 (ht:P.underlying t=some (.slice e)) (hi:P.info? e=some i) (hz:i.zero=some z) (hsize:i.size=size) (hby:i.bytes=bytes) (hzs:z.cells.size=size) (hsz:0<size)
 (hs:a.eval s=v) (hown:w.ownsRow base e size v n xs) (hx:a.eval x = G A m c) (hr:Src w size A m news) (h1:∀ u∈news,u.oneCell'=true)
 (h63:n+m≤maxLen) (hbytes:(n+m)*bytes≤140737488355328) (hbase:base≤w.heap.size)
 (h:∀ v' w',w'.ownsRow base e size v' (n+m) (xs++news)→w.grownBy w' v.ownBlock→(v'.ownBlock=v.ownBlock∨v'.ownBlock=some w.heap.size)→K (a.put o.dst v') w') :
 if Region.wanted o (yielded ops a.tmps)=true then Oper.wp P o a w K Q else E:=by
 have hw:Region.wanted o (yielded ops a.tmps)=true:=by simp [Region.wanted,hgd]
 rw [if_pos hw];obtain ⟨v',w',hrun,h2,h3,h4⟩:=zcq (P:=P) w base t o.type e i z size bytes ht hi hz hsize hby hzs hsz v n xs hown A m c news hr h1 h63 hbytes hbase;unfold Oper.wp execOp;simp only [ho,resolve,invoke,builtin,Sem.run_bind,Sem.run_pure,Result.andThen_ok,List.map_toArray,List.map_cons,List.map_nil,hs,hx,hrun];exact h v' w' h2 h3 h4
theorem za5 (w:World) (cs:List Value) (t:TypeId) (size n:Nat) (hn:cs.length=n*size):Src (w.alloc (J cs.toArray t)) size (some ⟨w.heap.size,0,F⟩) n cs:=by
 refine ⟨hn,fun _=>⟨_,rfl,fun j u hu => ?_⟩⟩
 rw [Addr.add_mid,Nat.zero_add];have h2:=cell_of_row (w.alloc (J cs.toArray t)) w.heap.size j _ t (0,0) (heap_alloc_new w _);rw [h2];simpa using hu
theorem BldS.after {w w6:World} {g m:Nat} {S:StatM} {n k base size:Nat} {e:TypeId} {v1 v2 v3 v4 v:Value} {xs:List Value} {o:Obj} (h:BldS w g m S n v1 v2 v3 v4) (hmg:m<g) (ho:w.ownsRow base e size v k xs) (hbase:g<base) (hg:((w.alloc o).drew).grownBy w6 v.ownBlock):BldS w6 g m S n v1 v2 v3 v4:=by
 have key:∀ b,b<w.heap.size→b<base→w6.heap[b]? = w.heap[b]? := fun b hb hbb=>by
  refine (hg.block b (by show b<(w.alloc o).heap.size;rw [ja];omega) (fun q => ?_)).trans (Below.heap_alloc w o b hb)
  have:=(ho.lt b q.symm).1;omega
 exact ⟨(key g h.lt hbase).trans h.heap,h.ne,h.map.kept (key m h.map.block (by omega))⟩
theorem zdk {w w6:World} {m k base size:Nat} {e:TypeId} {v:Value} {xs:List Value} {o:Obj} (ho:w.ownsRow base e size v k xs) (hm:m≤base) (hmw:m≤w.heap.size) (hg:((w.alloc o).drew).grownBy w6 v.ownBlock):Below m w w6:=by
 refine ⟨hg.os,hg.tape,hg.output,?_,fun b hb => ?_⟩
 · have:=hg.size
   have h2:(w.alloc o).drew.heap.size=w.heap.size+1:=by show (w.alloc o).heap.size=_;rw [ja]
   omega
 · refine (hg.block b (by show b<(w.alloc o).heap.size;rw [ja];omega) (fun q => ?_)).trans (Below.heap_alloc w o b (by omega))
   have:=(ho.lt b q.symm).1
   omega
theorem zk6:(Tryz.prog.info? 119).map (fun i=>(i.zero,i.size,i.bytes))=some (some (O #[H ⟨#[]⟩,d D 0,d D 0,d D 0,d D 0]),5,48):=by kernel_rfl
def zbM (xs:List LineM) (k:Nat):List Value:=(xs.take k).flatMap fun x=>[H x.name,d D x.r1,d D x.x1,d D x.r0,d D x.x0]
theorem zeS {xs:List LineM} {k:Nat} {x:LineM} (h:xs[k]? = some x):zbM xs (k+1)=zbM xs k++[H x.name,d D x.r1,d D x.x1,d D x.r0,d D x.x0]:=by
 unfold zbM;rw [List.take_add_one,h];simp
theorem zmm (g m:Nat) (S:StatM) (n k:Nat) (v1 v2 v3 v4:Value) (x:LineM) (w:World) (hmg:m<g) (h:BldS w g m S n v1 v2 v3 v4) (hnn:n=S.buses.length+k) (ho:w.ownsRow (g+1) 119 5 v2 k (zbM S.lines k)) (hk:k≤6) (hn4:n≤100) (hx:S.lines[k]? = some x) (hn:NameOk x.name) (hs:seen S.names n x.name=false) (hf:zkP x) :
 Calls L 96 #[.pointer (some ⟨g,0,F⟩),O #[H x.name,d D x.r1,d D x.x1,d D x.r0,d D x.x0]] w (zhZ g m m 119 5 S (n+1) (k+1) (zbM S.lines (k+1)) (fun v=>(v1,v,v3,v4)) w):=by
 have hsz:x.name.size≤maxLen:=by have:=hn.len;unfold maxLen;omega
 have hb:=zaa w (J #[H x.name,d D x.r1,d D x.x1,d D x.r0,d D x.x0] 119);have hgl:=h.lt;have hml:=h.map.block;have h0:=h.below hb hgl hml;have ho0:=zab ho hb (T _);have c0:(w.alloc (J #[H x.name,d D x.r1,d D x.x1,d D x.r0,d D x.x0] 119)).cell? ⟨w.heap.size,0,F⟩=some (H x.name):=by simp
 have c1:(w.alloc (J #[H x.name,d D x.r1,d D x.x1,d D x.r0,d D x.x0] 119)).cell? ⟨w.heap.size,1,F⟩=some (d D x.r1):=by simp
 have c2:(w.alloc (J #[H x.name,d D x.r1,d D x.x1,d D x.r0,d D x.x0] 119)).cell? ⟨w.heap.size,2,F⟩=some (d D x.x1):=by simp
 have c3:(w.alloc (J #[H x.name,d D x.r1,d D x.x1,d D x.r0,d D x.x0] 119)).cell? ⟨w.heap.size,3,F⟩=some (d D x.r0):=by simp
 have c4:(w.alloc (J #[H x.name,d D x.r1,d D x.x1,d D x.r0,d D x.x0] 119)).cell? ⟨w.heap.size,4,F⟩=some (d D x.x0):=by simp
 have hg0:w.heap.size<(w.alloc (J #[H x.name,d D x.r1,d D x.x1,d D x.r0,d D x.x0] 119)).heap.size:=by simp
 obtain ⟨f1,f2⟩:=hf;have H0:=Hd h0;have HO:=Hd ho0;have HN:=Hd hn;have HS:=Hd hs;have HX:=Hd hx;have HNN:=Hd hnn;have HF:=Hd (M f1 f2);clear h ho h0 ho0 hn hs hx hnn f1 f2;go_enter Tryz.func96,Tryz.ntmps96;go_wp2_with fail
 generalize w.alloc (J #[H x.name,d D x.r1,d D x.x1,d D x.r0,d D x.x0] 119)=W at *;refine (zed g m S n v1 v2 v3 v4 x.name _ H0.out HN.out HS.out).mono ?_
 rintro e w1 ⟨rfl,rfl⟩
 go_wp2_with (first
  | (go_at_call 130;(with_reducible refine (zgy x.r1 x.x1 HF.out.1 _).mono ?_);rintro e w2 ⟨rfl,j2⟩;obtain ⟨hc2,hf2⟩:=zcv j2;have g2:w.heap.size<w2.heap.size:=U hg0 j2.size)
  | (go_at_call 130;(with_reducible refine (zgy x.r0 x.x0 HF.out.2 _).mono ?_);rintro e w3 ⟨rfl,j3⟩))
 have hw3:=Below.then j2 j3
 have HB3:=Hd (Below.then hb hw3);have HJ3:=Hd hw3;obtain ⟨d0,d1,d2,d3,d4⟩:=kb5 hw3 hg0 ⟨c0,c1,c2,c3,c4⟩;have g3:w.heap.size<w3.heap.size:=U hg0 hw3.size;have h3:=H0.out.below hw3 (by have:=hb.size;omega) (by have:=hb.size;omega);obtain ⟨w4,hup,hm4,hg4⟩:=h3.map.drew.store (t := 233) Tryz.underlying9 Tryz.underlying233 (by unfold maxLen;omega) hsz (plainElem_bool Tryz.underlying4 true);obtain ⟨b1,b2,b3,b4,b5⟩:=h3.cells;have gg3:=h3.lt;have H3:=Hd h3;have HM3:=Hd h3.map.drew;have HM4:=Hd hm4;have HG4:=Hd hg4;clear hc2 hf2 g2 j2 j3 c0 c1 c2 c3 c4 hw3 h3 hm4 hg4;go_region
 have h4:BldS w4 g m S (n+1) v1 v2 v3 v4:=BldS.put (W:=w3.drew) ⟨H3.out.heap,H3.out.ne,H3.out.map.drew⟩ (by rw [HNN.out];exact zdz HX.out) HM4.out HG4.out;have ho4:w4.ownsRow (g+1) 119 5 v2 k (zbM S.lines k):=zb0 (w:=w3.drew) ((zab HO.out HJ3.out (T _)).drew) HG4.out (by omega);obtain ⟨A2,cc2,rfl,-,-⟩:=zac ho4;obtain ⟨b1,b2,b3,b4,b5⟩:=h4.cells;have gg4:=h4.lt;have gw4:w.heap.size<w4.heap.size:=U g3 HG4.out.size;have hne:w.heap.size≠m:=by omega
 have e0:w4.cell? ⟨w.heap.size,0,F⟩=some (H x.name):=(R (a:=⟨w.heap.size,0,F⟩) (HG4.out.block w.heap.size g3 (fun q=>by injection q;omega))).trans d0;have e1:w4.cell? ⟨w.heap.size,1,F⟩=some (d D x.r1):=(R (a:=⟨w.heap.size,1,F⟩) (HG4.out.block w.heap.size g3 (fun q=>by injection q;omega))).trans d1;have e2:w4.cell? ⟨w.heap.size,2,F⟩=some (d D x.x1):=(R (a:=⟨w.heap.size,2,F⟩) (HG4.out.block w.heap.size g3 (fun q=>by injection q;omega))).trans d2;have e3:w4.cell? ⟨w.heap.size,3,F⟩=some (d D x.r0):=(R (a:=⟨w.heap.size,3,F⟩) (HG4.out.block w.heap.size g3 (fun q=>by injection q;omega))).trans d3;have e4:w4.cell? ⟨w.heap.size,4,F⟩=some (d D x.x0):=(R (a:=⟨w.heap.size,4,F⟩) (HG4.out.block w.heap.size g3 (fun q=>by injection q;omega))).trans d4;obtain ⟨ti,hti,hzi⟩:=Option.map_eq_some_iff.1 zk6;obtain ⟨hz0,hz1,hz2⟩:ti.zero=some (O #[H ⟨#[]⟩,d D 0,d D 0,d D 0,d D 0])∧ti.size=5∧ti.bytes=48:=by simpa using hzi
 have HTI:=Hd (M hti (M hz0 (M hz1 hz2)));have HOW:=Hd (show ((w4.alloc (J #[H x.name,d D x.r1,d D x.x1,d D x.r0,d D x.x0] 119)).drew).ownsRow (g+1) 119 5 (G A2 k cc2) k (zbM S.lines k) from ho4.drew.alloc _);have HSR:=Hd (show Src ((w4.alloc (J #[H x.name,d D x.r1,d D x.x1,d D x.r0,d D x.x0] 119)).drew) 5 (some ⟨w4.heap.size,0,F⟩) 1 [H x.name,d D x.r1,d D x.x1,d D x.r0,d D x.x0] from za5 w4.drew [H x.name,d D x.r1,d D x.x1,d D x.r0,d D x.x0] 119 5 1 rfl);have HH4:=Hd h4;have HO4:=Hd ho4;clear hti hzi hz0 hz1 hz2 h4 ho4 d0 d1 d2 d3 d4 hup;go_upto_region 7 with fail
 go_region_law ((refine zai (o:=⟨some 37,_,_,_,_,_⟩) (w:=(w4.alloc (J #[H x.name,d D x.r1,d D x.x1,d D x.r0,d D x.x0] 119)).drew) _ _ 23 rfl rfl Tryz.underlying23 HTI.out.1 HTI.out.2.1 HTI.out.2.2.1 HTI.out.2.2.2 rfl (by decide) rfl HOW.out rfl HSR.out (by simp [Value.oneCell']) (by unfold maxLen;omega) (by omega) (by simp;omega) ?_;intro v6 w6 hown6 hg6 hv6;have hb6:=HH4.out.after hmg HO4.out (V g) hg6;have l6:=hb6.lt;have f6:=hb6.free 2;obtain ⟨-,x6,-,-,-⟩:=hb6.cells;have HB6:=Hd hb6;have HW6:=Hd hown6;have HG6:=Hd hg6;obtain ⟨A6,k6,hv6e,-,-⟩:=zac hown6;clear hb6 hown6 hg6 hv6;subst hv6e))
 all_goals
  go_wp2;go_ret
  refine ⟨G A6 (k+1) k6,rfl,⟨?_,HB6.out.ne,?_⟩,?_,?_⟩
  · rw [heap_setCell_same w6 g 2 _ _ _ HB6.out.heap]
    rfl
  · exact HB6.out.map.kept ((zb2 w6 g 2 _).block m HB6.out.map.block (fun q=>by injection q;omega))
  · exact zb0 (by rw [zeS HX.out];exact HW6.out) (zb2 w6 g 2 _) (V g)
  · refine Below.setCell ?_ (jc hmg) _
    exact (((HB3.out.mono (by omega)).drew).trans (zaO HG4.out (jc HM3.out.block))).trans (zdk HO4.out (by omega) (jc HH4.out.map.block) HG6.out)
theorem zfC:(Tryz.prog.info? 217).map (fun i=>(i.zero,i.size,i.bytes))=some (some (O #[H ⟨#[]⟩,I false]),2,24):=by kernel_rfl
def itZ:List Value:=[d D 0,G F 0 0,I false,G F 0 0]
theorem zaC {W W2:World} {B:Nat} {row:Option Nat} (hg:W.grownBy W2 row) (hB:B≤W.heap.size) (hr:∀ b,row=some b→B≤b):Below B W W2:=
 ⟨hg.os,hg.tape,hg.output,hg.size,fun b hb=>hg.block b (U hb hB) fun q=>by have:=hr b q.symm;omega⟩
theorem zar {P:Program} {w:World} {ops:Array Oper} {rest:List Oper} {o:Oper} {a:Act} {Q:Exit→Act→World→Prop} (s x:Operand) (t:TypeId)
 {base:Nat} {e:TypeId} {i:TypeInfo} {z:Value} {size bytes:Nat} {v:Value} {n:Nat} {xs:List Value} {A:Option Addr} {m c:Nat} {news:List Value} (hgd:o.guard=F)
 (ho:o.op = .call { callee := .builtin .append,args := #[s,x],argTypes := #[t,t] })
 (ht:P.underlying t=some (.slice e)) (hi:P.info? e=some i) (hz:i.zero=some z) (hsize:i.size=size) (hby:i.bytes=bytes) (hzs:z.cells.size=size) (hsz:0<size)
 (hs:a.eval s=v) (hown:w.ownsRow base e size v n xs) (hx:a.eval x = G A m c) (hr:Src w size A m news) (h1:∀ u∈news,u.oneCell'=true)
 (h63:n+m≤maxLen) (hbytes:(n+m)*bytes≤140737488355328) (hbase:base≤w.heap.size)
 (h:∀ v' w',w'.ownsRow base e size v' (n+m) (xs++news)→w.grownBy w' v.ownBlock→(v'.ownBlock=v.ownBlock∨v'.ownBlock=some w.heap.size)→wpList P ops Q rest (a.put o.dst v') w'):wpList P ops Q (o::rest) a w:=by
 refine wpList_plain hgd fun K hK => ?_
 obtain ⟨v',w',hrun,h2,h3,h4⟩:=zcq (P:=P) w base t o.type e i z size bytes ht hi hz hsize hby hzs hsz v n xs hown A m c news hr h1 h63 hbytes hbase;unfold Oper.wp execOp;simp only [ho,resolve,invoke,builtin,Sem.run_bind,Sem.run_pure,Result.andThen_ok,List.map_toArray,List.map_cons,List.map_nil,hs,hx,hrun];exact hK _ _ (h v' w' h2 h3 h4)
theorem rw_wt {w:World} {S:Nat→Prop} {A:Option Addr} {n:Nat} {xs:List ByteArray} (h:Rw WtC 1 w S A n xs):∀ s∈xs,Wt s:=by
 intro s hs;obtain ⟨k,hk⟩:=List.getElem?_of_mem hs;have hl:k<n:=by have:=(List.getElem?_eq_some_iff.1 hk).1;have:=h.1;omega
 obtain ⟨b,o,cs,x,-,-,hx,-,hR,-⟩:=h.at_ hl;rw [hk] at hx
 cases hx
 exact hR.2
structure PutI (S:Nat→Prop) (g r base:Nat) (w:World) (ws:List (ByteArray × Bool)) (v:Value) (wr:World):Prop where
 it:ItB wr g base v ws
 res:Row wr r 211 itZ
 nr:v.ownBlock≠some r
 gr:g≠r
 bg:base≤g
 keep:KeepOn S w wr
 sep:∀ b,S b→b<w.heap.size∧v.ownBlock≠some b∧b≠g
 bel:Below base w wr
theorem PutI.push {S:Nat→Prop} {g r base:Nat} {w wr w':World} {ws:List (ByteArray × Bool)} {v v':Value} {x:ByteArray × Bool} {o:Obj} (h:PutI S g r base w ws v wr) (hg:(wr.alloc o).grownBy w' v.ownBlock) (hv:v'.ownBlock=v.ownBlock∨v'.ownBlock=some (wr.heap.size+1))
 (hown:w'.ownsRow base 217 2 v' (ws.length+1) (ws.flatMap wdC++wdC x)):PutI S g r base w (ws++[x]) v' (w'.setCell ⟨g,1,F⟩ v'):=by
 have hrl:=h.res.lt;have hs:=h.bel.size
 have key:∀ b,b<wr.heap.size→v.ownBlock≠some b→v'.ownBlock≠some b:=by
  intro b hb hn
  rcases hv with q | q
  · rw [q];exact hn
  · rw [q]
    intro e
    cases e
    omega
 have stay:∀ b,b<wr.heap.size→v.ownBlock≠some b→b≠g→(w'.setCell ⟨g,1,F⟩ v').heap[b]? = wr.heap[b]?:=by
  intro b hb hn hbg;rw [heap_setCell_other w' ⟨g,1,F⟩ b v' (fun q=>hbg q),hg.block b (by simp;omega) (fun q=>hn q.symm),heap_alloc_old wr o hb]
 have hbx:Below base wr (w'.setCell ⟨g,1,F⟩ v'):=by
  have h1:Below base wr (wr.alloc o):=(zaa wr o).mono h.it.lo;have h2:Below base (wr.alloc o) w':=zaC hg (by have:=h.it.lo;simp;omega) fun q hq=>(h.it.own.lt q hq).1
  exact (h1.trans h2).setCell (p:=⟨g,1,F⟩) h.bg _
 refine ⟨h.it.push hg hv hown,?_,key r hrl h.nr,h.gr,h.bg,?_,fun b hb => ?_,h.bel.trans hbx⟩
 · exact (stay r hrl h.nr h.gr.symm).trans h.res
 · intro b hb
   obtain ⟨h1,h2,h3⟩:=h.sep b hb
   exact (stay b (by omega) h2 h3).trans (h.keep b hb)
 · obtain ⟨h1,h2,h3⟩:=h.sep b hb
   exact ⟨h1,key b (by omega) h2,h3⟩
def PutR (S:Nat→Prop) (g r base:Nat) (w:World) (ws:List (ByteArray × Bool)) (xs:List ByteArray) (i:Value) (wr:World):Prop:=
 ∃ k v l,k≤xs.length∧i = d D (k:Int)∧l=ws++(xs.take k).map (·,false)∧PutI S g r base w l v wr
theorem zfY (S:Nat→Prop) (A:Option Addr) (c:Nat) (xs:List ByteArray) (w:World) (h:Rw WtC 1 w S A xs.length xs) (hl:xs.length≤40) (hS:∀ b,S b→b<w.heap.size):
 Calls L 118 #[G A xs.length c] w (zd1 w.heap.size (([]:List (ByteArray × Bool)).length+xs.length) (([]:List (ByteArray × Bool)).length+xs.length) w):=by
 obtain ⟨i0,hi,hz0,hz1,hz2⟩:=info_parts zfC;have HTI:=Hd (M hi (M hz0 (M hz1 hz2)));clear hi hz0 hz1 hz2;have HWS:=Hd (show ∀ x∈([]:List (ByteArray × Bool)),Wt x.1 from by simp)
 have HP:=Hd (show PutI S (w.heap.size+1) w.heap.size w.heap.size w [] (G F 0 0) ((w.alloc (J #[d D 0,G F 0 0,I false,G F 0 0] 211)).alloc (J #[d D 0,G F 0 0,I false,G F 0 0] 211)) from
  ⟨⟨Row.new _ itZ (by simp),jd _ _ _ _,by simp [jb],by simp;omega⟩,(Row.new _ itZ rfl).below (zaa _ _) (by simp),by simp [jb],by omega,by omega,
    zbc ((zaa _ _).alloc (by simp) _) hS,fun b hb=>⟨hS b hb,by simp [jb],by have:=hS b hb;omega⟩,(zaa _ _).alloc (by simp) _⟩)
 have HWT:=Hd (rw_wt h);go_enter Tryz.func118,Tryz.ntmps118;go_upto_region 2 with fail
 generalize ((w.alloc (J #[d D 0,G F 0 0,I false,G F 0 0] 211)).alloc (J #[d D 0,G F 0 0,I false,G F 0 0] 211))=W0 at *;go_wp2
 go_loopw [8] (PutR S (w.heap.size+1) w.heap.size w.heap.size w ([]:List (ByteArray × Bool)) xs) (fun i _=>xs.length-(intOf i).toNat)
 case atStart=>exact ⟨0,_,_,Y _,rfl,by simp,HP.out⟩
 case round =>
  obtain ⟨k,v,l,hk,rfl,hll,hp⟩:=hrel;have hln:l.length=([]:List (ByteArray × Bool)).length+k:=by rw [hll];simp;omega
  have HLL:=Hd hll;have HLN:=Hd hln;clear hll hln;have hgl:=zcp hp.it.box;have hrl:=hp.res.lt;have vc0:=Row.cell (k:=0) (v := d D 0) (t := 211) (cs:=[d D 0,v,I false,G F 0 0]) (w:=wr) (g:=(w.heap.size+1)) hp.it.box rfl;have vc2:=Row.cell (k:=2) (v := I false) (t := 211) (cs:=[d D 0,v,I false,G F 0 0]) (w:=wr) (g:=(w.heap.size+1)) hp.it.box rfl;have vc3:=Row.cell (k:=3) (v := G F 0 0) (t := 211) (cs:=[d D 0,v,I false,G F 0 0]) (w:=wr) (g:=(w.heap.size+1)) hp.it.box rfl;obtain ⟨rc0,rc1,rc2,rc3⟩:=kr4 hp.res;obtain ⟨rf0,rf1,rf2,rf3⟩:=kq4 hp.res;have vc:=Row.cell (k:=1) (v:=v) (t := 211) (cs:=[d D 0,v,I false,G F 0 0]) (w:=wr) (g:=(w.heap.size+1)) hp.it.box rfl;have vf:=Row.free (t := 211) (cs:=[d D 0,v,I false,G F 0 0]) (w:=wr) (g:=(w.heap.size+1)) hp.it.box 1
  by_cases hlt:k<xs.length
  · obtain ⟨b,o,cs,x,hA,hSb,hx,-,⟨rfl,hwt⟩,hat⟩:=h.at_ hlt
    subst hA
    have c0:wr.cell? ⟨b,o+k,F⟩=some (H x):=by simpa using (hp.keep.range hSb hat) 0 _ rfl
    have hsm:x.size≤maxLen:=by have:=hwt.1;unfold maxLen;omega
    have hki:(k:Int)<(xs.length:Int):=by omega
    have hk0:(0:Int)≤(k:Int):=by omega
    have hbl:b<wr.heap.size:=by have:=(hp.sep b hSb).1;have:=hp.bel.size;omega
    obtain ⟨AV,cV,rfl,-,-⟩:=zac hp.it.own
    have HO:=Hd (hp.it.own.alloc (J #[H x,I false] 217))
    have HS:=Hd (za5 wr [H x,I false] 217 2 1 rfl)
    have HPP:=Hd hp
    have HX:=Hd hx
    have HW:=Hd hwt
    have hwl:l.length≤60:=by have:=HLN.out;first | omega | (simp at this;omega)
    have hlo:=hp.it.lo
    clear hp hx hwt
    go_wp2_with (at_builtin;refine zar (w:=wr.alloc (J #[H x,I false] 217)) _ _ 209 rfl rfl Tryz.underlying209 HTI.out.1 HTI.out.2.1 HTI.out.2.2.1 HTI.out.2.2.2 rfl (by decide) rfl HO.out rfl HS.out (by simp [Value.oneCell']) (by unfold maxLen;omega) (by omega) (by simp;omega) ?_)
    intro v' w' hown hg hv
    have HP2:=Hd (HPP.out.push (x:=(x,false)) (v':=v') (w':=w') hg hv hown)
    obtain ⟨A2,c2,rfl,-,-⟩:=zac hown
    have c1':w'.cell? ⟨(w.heap.size+1),1,F⟩=some (G AV l.length cV):=by
     rw [R (a:=⟨(w.heap.size+1),1,F⟩) (hg.block _ (by simp;omega) (fun q=>HPP.out.it.ng q.symm)),R (a:=⟨(w.heap.size+1),1,F⟩) (heap_alloc_old wr _ hgl)]
     exact vc
    have f1':w'.frozen? ⟨(w.heap.size+1),1,F⟩=false:=by
     rw [Z (a:=⟨(w.heap.size+1),1,F⟩) (hg.block _ (by simp;omega) (fun q=>HPP.out.it.ng q.symm)),Z (a:=⟨(w.heap.size+1),1,F⟩) (heap_alloc_old wr _ hgl)]
     exact vf
    clear hown hg hv vc vf vc0 vc2 vc3 rc0 rc1 rc2 rc3 rf0 rf1 rf2 rf3
    go_wp2
    go_roundw
    case rel =>
     refine ⟨k+1,_,_,by omega,by go_num,?_,HP2.out⟩
     rw [List.take_add_one,HX.out,HLL.out]
     simp
    case measure=>simp [intOf];omega
  · obtain rfl:k=xs.length:=by omega
    obtain ⟨AV,cV,rfl,hcl,hcm⟩:=zac hp.it.own
    have HPP:=Hd hp
    have hrl':w.heap.size≠(w.heap.size+1):=hp.gr.symm
    clear hp
    go_wp2
    refine bodyPost_ret (v := O #[d D 0,G AV l.length cV,I false,G F 0 0]) (by simp [results,Tryz.results118,go_sem,rc0,rc1,rc2,rc3]) rfl ⟨AV,cV,l,rfl,by have:=HLN.out;first | omega | (simp at this;simp;omega),⟨hcl,hcm⟩,?_,?_,?_⟩
    · exact zat (w:=wr) (w':=sets (w.heap.size) wr [(0,d D 0),(1,G AV l.length cV),(2,I false),(3,G F 0 0)]) HPP.out.it.own fun b hb'=>zaf _ _ _ b (fun q=>HPP.out.nr (by rw [hb',q]))
    · intro x hx
      rw [HLL.out] at hx
      rcases List.mem_append.1 hx with hx | hx
      · exact HWS.out x hx
      · obtain ⟨y,hy,rfl⟩:=List.mem_map.1 hx
        exact HWT.out y (List.mem_of_mem_take hy)
    · exact zak (by omega) [(0,d D 0),(1,G AV l.length cV),(2,I false),(3,G F 0 0)] wr HPP.out.bel
theorem zdn (S:Nat→Prop) (A:Option Addr) (c:Nat) (base:Nat) (A0:Option Addr) (c0:Nat) (ws:List (ByteArray × Bool)) (xs:List ByteArray) (w:World) (h:Rw WtC 1 w S A xs.length xs) (hl:xs.length≤40) (hbase:base≤w.heap.size) (hown0:w.ownsRow base 217 2 (G A0 ws.length c0) ws.length (ws.flatMap wdC)) (hws:∀ x∈ws,Wt x.1) (hwn:ws.length≤19) (hS:∀ b,S b→b<w.heap.size∧(G A0 ws.length c0).ownBlock≠some b):
 Calls L 123 #[O #[d D 0,G A0 ws.length c0,I false,G F 0 0],G A xs.length c] w (fun e w'=>zd1 base (ws.length+xs.length) (ws.length+xs.length) w e w'∧KeepOn S w w'):=by
 obtain ⟨i0,hi,hz0,hz1,hz2⟩:=info_parts zfC;have HTI:=Hd (M hi (M hz0 (M hz1 hz2)));clear hi hz0 hz1 hz2;have HWS:=Hd hws
 have HP:=Hd (show PutI S w.heap.size (w.heap.size+1) base w ws (G A0 ws.length c0) ((w.alloc (J #[d D 0,G A0 ws.length c0,I false,G F 0 0] 211)).alloc (J #[d D 0,G F 0 0,I false,G F 0 0] 211)) from
  ⟨⟨(Row.new w.heap.size [d D 0,G A0 ws.length c0,I false,G F 0 0] rfl).below (zaa _ _) (by simp),(hown0.alloc _).alloc _,fun q=>by have:=(hown0.lt _ q).2;omega,by simp;omega⟩,Row.new _ itZ (by simp),fun q=>by have:=(hown0.lt _ q).2;omega,by omega,hbase,
    zbc ((zaa _ _).alloc (by simp) _) fun b hb=>(hS b hb).1,fun b hb=>⟨(hS b hb).1,(hS b hb).2,by have:=(hS b hb).1;omega⟩,((zaa _ _).alloc (by simp) _).mono hbase⟩)
 clear hown0 hws;have HWT:=Hd (rw_wt h);go_enter Tryz.func123,Tryz.ntmps123;go_upto_region 2 with fail
 generalize ((w.alloc (J #[d D 0,G A0 ws.length c0,I false,G F 0 0] 211)).alloc (J #[d D 0,G F 0 0,I false,G F 0 0] 211))=W0 at *;go_wp2
 go_loopw [9] (PutR S w.heap.size (w.heap.size+1) base w ws xs) (fun i _=>xs.length-(intOf i).toNat)
 case atStart=>exact ⟨0,_,_,Y _,rfl,by simp,HP.out⟩
 case round =>
  obtain ⟨k,v,l,hk,rfl,hll,hp⟩:=hrel;have hln:l.length=ws.length+k:=by rw [hll];simp;omega
  have HLL:=Hd hll;have HLN:=Hd hln;clear hll hln;have hgl:=zcp hp.it.box;have hrl:=hp.res.lt;have vc0:=Row.cell (k:=0) (v := d D 0) (t := 211) (cs:=[d D 0,v,I false,G F 0 0]) (w:=wr) (g:=w.heap.size) hp.it.box rfl;have vc2:=Row.cell (k:=2) (v := I false) (t := 211) (cs:=[d D 0,v,I false,G F 0 0]) (w:=wr) (g:=w.heap.size) hp.it.box rfl;have vc3:=Row.cell (k:=3) (v := G F 0 0) (t := 211) (cs:=[d D 0,v,I false,G F 0 0]) (w:=wr) (g:=w.heap.size) hp.it.box rfl;obtain ⟨rc0,rc1,rc2,rc3⟩:=kr4 hp.res;obtain ⟨rf0,rf1,rf2,rf3⟩:=kq4 hp.res;have vc:=Row.cell (k:=1) (v:=v) (t := 211) (cs:=[d D 0,v,I false,G F 0 0]) (w:=wr) (g:=w.heap.size) hp.it.box rfl;have vf:=Row.free (t := 211) (cs:=[d D 0,v,I false,G F 0 0]) (w:=wr) (g:=w.heap.size) hp.it.box 1
  by_cases hlt:k<xs.length
  · obtain ⟨b,o,cs,x,hA,hSb,hx,-,⟨rfl,hwt⟩,hat⟩:=h.at_ hlt
    subst hA
    have c0:wr.cell? ⟨b,o+k,F⟩=some (H x):=by simpa using (hp.keep.range hSb hat) 0 _ rfl
    have hsm:x.size≤maxLen:=by have:=hwt.1;unfold maxLen;omega
    have hki:(k:Int)<(xs.length:Int):=by omega
    have hk0:(0:Int)≤(k:Int):=by omega
    have hbl:b<wr.heap.size:=by have:=(hp.sep b hSb).1;have:=hp.bel.size;omega
    obtain ⟨AV,cV,rfl,-,-⟩:=zac hp.it.own
    have HO:=Hd (hp.it.own.alloc (J #[H x,I false] 217))
    have HS:=Hd (za5 wr [H x,I false] 217 2 1 rfl)
    have HPP:=Hd hp
    have HX:=Hd hx
    have HW:=Hd hwt
    have hwl:l.length≤60:=by have:=HLN.out;first | omega | (simp at this;omega)
    have hlo:=hp.it.lo
    clear hp hx hwt
    go_wp2_with (at_builtin;refine zar (w:=wr.alloc (J #[H x,I false] 217)) _ _ 209 rfl rfl Tryz.underlying209 HTI.out.1 HTI.out.2.1 HTI.out.2.2.1 HTI.out.2.2.2 rfl (by decide) rfl HO.out rfl HS.out (by simp [Value.oneCell']) (by unfold maxLen;omega) (by omega) (by simp;omega) ?_)
    intro v' w' hown hg hv
    have HP2:=Hd (HPP.out.push (x:=(x,false)) (v':=v') (w':=w') hg hv hown)
    obtain ⟨A2,c2,rfl,-,-⟩:=zac hown
    have c1':w'.cell? ⟨w.heap.size,1,F⟩=some (G AV l.length cV):=by
     rw [R (a:=⟨w.heap.size,1,F⟩) (hg.block _ (by simp;omega) (fun q=>HPP.out.it.ng q.symm)),R (a:=⟨w.heap.size,1,F⟩) (heap_alloc_old wr _ hgl)]
     exact vc
    have f1':w'.frozen? ⟨w.heap.size,1,F⟩=false:=by
     rw [Z (a:=⟨w.heap.size,1,F⟩) (hg.block _ (by simp;omega) (fun q=>HPP.out.it.ng q.symm)),Z (a:=⟨w.heap.size,1,F⟩) (heap_alloc_old wr _ hgl)]
     exact vf
    clear hown hg hv vc vf vc0 vc2 vc3 rc0 rc1 rc2 rc3 rf0 rf1 rf2 rf3
    go_wp2
    go_roundw
    case rel =>
     refine ⟨k+1,_,_,by omega,by go_num,?_,HP2.out⟩
     rw [List.take_add_one,HX.out,HLL.out]
     simp
    case measure=>simp [intOf];omega
  · obtain rfl:k=xs.length:=by omega
    obtain ⟨AV,cV,rfl,hcl,hcm⟩:=zac hp.it.own
    have HPP:=Hd hp
    have hrl':(w.heap.size+1)≠w.heap.size:=hp.gr.symm
    clear hp
    go_wp2
    refine bodyPost_ret (v := O #[d D 0,G AV l.length cV,I false,G F 0 0]) (by simp [results,Tryz.results123,go_sem,rc0,rc1,rc2,rc3]) rfl ⟨⟨AV,cV,l,rfl,by have:=HLN.out;first | omega | (simp at this;simp;omega),⟨hcl,hcm⟩,?_,?_,?_⟩,?_⟩
    · exact zat (w:=wr) (w':=sets ((w.heap.size+1)) wr [(0,d D 0),(1,G AV l.length cV),(2,I false),(3,G F 0 0)]) HPP.out.it.own fun b hb'=>zaf _ _ _ b (fun q=>HPP.out.nr (by rw [hb',q]))
    · intro x hx
      rw [HLL.out] at hx
      rcases List.mem_append.1 hx with hx | hx
      · exact HWS.out x hx
      · obtain ⟨y,hy,rfl⟩:=List.mem_map.1 hx
        exact HWT.out y (List.mem_of_mem_take hy)
    · exact zak (by omega) [(0,d D 0),(1,G AV l.length cV),(2,I false),(3,G F 0 0)] wr HPP.out.bel
    · exact fun b hb=>(zaf (w.heap.size+1) [(0,d D 0),(1,G AV l.length cV),(2,I false),(3,G F 0 0)] wr b (by have:=(hS b hb).1;omega)).trans (HPP.out.keep b hb)
theorem zgu (S:Nat→Prop) (A:Option Addr) (c:Nat) (base:Nat) (A0:Option Addr) (c0:Nat) (ws:List (ByteArray × Bool)) (xs:List ByteArray) (w:World) (h:Rw WtC 1 w S A xs.length xs) (hl:xs.length≤40) (hbase:base≤w.heap.size) (hown0:w.ownsRow base 217 2 (G A0 ws.length c0) ws.length (ws.flatMap wdC)) (hws:∀ x∈ws,Wt x.1) (hwn:ws.length≤19) (hS:∀ b,S b→b<w.heap.size∧(G A0 ws.length c0).ownBlock≠some b) :
 Calls L 123 #[O #[d D 0,G A0 ws.length c0,I false,G F 0 0],G A xs.length c] w (zd1 base (ws.length+xs.length) (ws.length+xs.length) w):=
 (zdn S A c base A0 c0 ws xs w h hl hbase hown0 hws hwn hS).mono fun _ _ h=>h.1
theorem stm_ok (S:Nat→Prop) (A:Option Addr) (c:Nat) (xs:List ByteArray) (w:World) (h:Rw WtC 1 w S A xs.length xs) (hl:xs.length≤40) (hS:∀ b,S b→b<w.heap.size) :
 Calls L 122 #[G A xs.length c] w (zd1 w.heap.size xs.length xs.length w):=by
 have hb:=zaa w (J #[d D 0,G F 0 0,I false,G F 0 0] 211);have HE:=Hd (zgu S A c (w.alloc (J #[d D 0,G F 0 0,I false,G F 0 0] 211)).heap.size F 0 [] xs (w.alloc (J #[d D 0,G F 0 0,I false,G F 0 0] 211)) (h.mono WtC.mono (fun _ q=>q) (zbc hb hS)) hl (T _) (jd _ _ _ _) (by simp) (by simp) (fun b q=>⟨U (hS b q) hb.size,by simp [jb]⟩));have R0:Row (w.alloc (J #[d D 0,G F 0 0,I false,G F 0 0] 211)) w.heap.size 211 itZ:=Row.new _ itZ rfl;have z0:=R0.lt;obtain ⟨u_0,u_1,u_2,u_3⟩:=kr4 R0;obtain ⟨uf_0,uf_1,uf_2,uf_3⟩:=kq4 R0;have HB:=Hd hb;clear hb R0;go_enter Tryz.func122,Tryz.ntmps122;go_upto_region 1 with fail
 generalize w.alloc (J #[d D 0,G F 0 0,I false,G F 0 0] 211)=W0 at *;go_wp2_with fail
 refine HE.out.mono ?_
 rintro e w1 ⟨A1,c1,ws,rfl,hlen,hc,ho,hw,hb1⟩
 obtain ⟨t0,t1,t2,t3⟩:=kb4 hb1 z0 ⟨u_0,u_1,u_2,u_3⟩;obtain ⟨tf0,tf1,tf2,tf3⟩:=kf4 hb1 z0 ⟨uf_0,uf_1,uf_2,uf_3⟩;have HO:=Hd ho;have HB1:=Hd hb1;have HL:=Hd hlen;clear ho hb1 hlen;go_wp2;refine bodyPost_ret (v := O #[d D 0,G A1 ws.length c1,I false,G F 0 0]) (by simp [results,Tryz.results122,go_sem,t0,t1,t2,t3]) rfl ⟨A1,c1,ws,rfl,by have:=HL.out;simpa using this,hc,?_,hw,?_⟩
 · refine zat (w:=w1) (w':=sets w.heap.size w1 [(0,d D 0),(1,G A1 ws.length c1),(2,I false),(3,G F 0 0)]) (zao HO.out (by have:=HB.out.size;omega)) fun b hb'=>zaf _ _ _ b ?_
   have:=(HO.out.lt b hb').1
   omega
 · exact zak (g:=w.heap.size) (T _) [(0,d D 0),(1,G A1 ws.length c1),(2,I false),(3,G F 0 0)] w1 (Below.then HB.out HB1.out)
theorem zhx (n:Int) (w:World):Calls L 124 #[d D n] w fun e w'=>(∃ s,e = .returned (H s)∧Wt s)∧w=w':=by
 by_cases h1:n=1
 · subst h1
   go_enter Tryz.func124,Tryz.ntmps124
   go_wp2
   go_ret
   exact ⟨⟨_,rfl,Wt.lit rfl⟩,rfl⟩
 · have e1:(n == 1)=false:=by rw [beq_eq_false_iff_ne];exact h1
   by_cases h2:n=2
   · subst h2
     go_enter Tryz.func124,Tryz.ntmps124
     go_wp2
     go_ret
     exact ⟨⟨_,rfl,Wt.lit rfl⟩,rfl⟩
   · have e2:(n == 2)=false:=by rw [beq_eq_false_iff_ne];exact h2
     go_enter Tryz.func124,Tryz.ntmps124
     go_wp2
     go_ret
     exact ⟨⟨_,rfl,Wt.lit rfl⟩,rfl⟩
theorem zfV (n:Int) (w:World):Calls L 156 #[d D n] w fun e w'=>(∃ s,e = .returned (H s)∧Wt s)∧w=w':=by
 by_cases h1:n=1
 · subst h1
   go_enter Tryz.func156,Tryz.ntmps156
   go_wp2
   go_ret
   exact ⟨⟨_,rfl,Wt.lit rfl⟩,rfl⟩
 · have e1:(n == 1)=false:=by rw [beq_eq_false_iff_ne];exact h1
   by_cases h2:n=2
   · subst h2
     go_enter Tryz.func156,Tryz.ntmps156
     go_wp2
     go_ret
     exact ⟨⟨_,rfl,Wt.lit rfl⟩,rfl⟩
   · have e2:(n == 2)=false:=by rw [beq_eq_false_iff_ne];exact h2
     go_enter Tryz.func156,Tryz.ntmps156
     go_wp2
     go_ret
     exact ⟨⟨_,rfl,Wt.lit rfl⟩,rfl⟩
end Go.Proofs.YtjkimieapfbhbaaGreatDoor
