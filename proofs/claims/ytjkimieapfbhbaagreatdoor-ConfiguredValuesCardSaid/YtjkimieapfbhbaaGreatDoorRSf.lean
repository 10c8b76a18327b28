/-
 The reference's Check of a station: what it tells when it finds no error.
-/
import Derived.Test.YtjkimieapfbhbaaGreatDoorKVd
import Derived.Test.YtjkimieapfbhbaaGreatDoorKRSe
set_option maxRecDepth 100000
set_option maxHeartbeats 16000000
open Go.Value renaming slice → f, string → m, int → r
open Option renaming none → l
open Nat renaming le_refl → t, zero_le → D, not_lt_zero → E, lt_of_lt_of_le → H
open Go.Obj renaming cells → u
open List renaming getElem?_append_right → z, length_map → C, getElem?_append_left → F, getElem?_map → G
namespace Go.Proofs.YtjkimieapfbhbaaGreatDoor
open Go.RowKit
def zcu (S:StatM) (n:Nat):Prop:=∀ (j:Nat) (x:ByteArray),j<n→S.names[j]? = some x→NameOk x∧seen S.names j x=false
theorem zbY {S:StatM} {n:Nat} {x:ByteArray} (h:zcu S n) (hx:S.names[n]? = some x) (hn:NameOk x∧seen S.names n x=false):zcu S (n+1):=by
 intro j y hj hy
 rcases Nat.lt_succ_iff_lt_or_eq.1 hj with h' | rfl
 · exact h j y h' hy
 · rw [hx] at hy;cases hy;exact hn
theorem zbv (S:StatM):S.names.length=S.buses.length+(S.lines.length+(S.sources.length+S.bays.length)):=by simp [StatM.names]
theorem zdy {S:StatM} {k:Nat} {x:ByteArray} (h:S.buses[k]? = some x):S.names[k]? = some x:=by
 have:=(List.getElem?_eq_some_iff.1 h).1;rw [StatM.names,F this,h]
theorem zdz {S:StatM} {k:Nat} {x:LineM} (h:S.lines[k]? = some x):S.names[S.buses.length+k]? = some x.name:=by
 have:=(List.getElem?_eq_some_iff.1 h).1;rw [StatM.names,z (by omega),F (by simp;omega),show S.buses.length+k-S.buses.length=k by omega,G,h];rfl
theorem zdA {S:StatM} {k:Nat} {x:SourceM} (h:S.sources[k]? = some x):S.names[S.buses.length+S.lines.length+k]? = some x.name:=by
 have:=(List.getElem?_eq_some_iff.1 h).1
 rw [StatM.names,z (by omega),z (by simp;omega),F (by simp;omega),C,
  show S.buses.length+S.lines.length+k-S.buses.length-S.lines.length=k by omega,G,h];rfl
theorem zdB {S:StatM} {k:Nat} {x:BayM} (h:S.bays[k]? = some x):S.names[S.buses.length+S.lines.length+S.sources.length+k]? = some x.name:=by
 have:=(List.getElem?_eq_some_iff.1 h).1
 rw [StatM.names,z (by omega),z (by simp;omega),z (by simp;omega),C,C,
  show S.buses.length+S.lines.length+S.sources.length+k-S.buses.length-S.lines.length-S.sources.length=k by omega,G,h];rfl
theorem some1 {S:StatM} {k:Nat} (h:k≤S.buses.length):S.someNames k 0 0 0=S.names.take k:=by
 simp [StatM.someNames,StatM.names,List.take_append_of_le_length h]
theorem some2 {S:StatM} {k:Nat} (h:k≤S.lines.length):S.someNames S.buses.length k 0 0=S.names.take (S.buses.length+k):=by
 rw [StatM.names,List.take_length_add_append,List.take_append_of_le_length (by simpa using h)];simp [StatM.someNames]
theorem some3 {S:StatM} {k:Nat} (h:k≤S.sources.length):S.someNames S.buses.length S.lines.length k 0=S.names.take (S.buses.length+S.lines.length+k):=by
 have e:(S.lines.map (·.name)).length=S.lines.length:=C ..;rw [StatM.names,show S.buses.length+S.lines.length+k=S.buses.length+(S.lines.length+k) by omega,List.take_length_add_append,← e,List.take_length_add_append,List.take_append_of_le_length (by simpa using h),e];simp [StatM.someNames,List.take_of_length_le]
theorem some4 {S:StatM} {k:Nat}:S.someNames S.buses.length S.lines.length S.sources.length k=S.names.take (S.buses.length+S.lines.length+S.sources.length+k):=by
 have e:(S.lines.map (·.name)).length=S.lines.length:=C ..;have e2:(S.sources.map (·.name)).length=S.sources.length:=C ..;rw [StatM.names,show S.buses.length+S.lines.length+S.sources.length+k=S.buses.length+(S.lines.length+(S.sources.length+k)) by omega,List.take_length_add_append,← e,List.take_length_add_append,← e2,List.take_length_add_append,e,e2];simp [StatM.someNames,List.take_of_length_le]
theorem zgY (xs:List ByteArray) (n:Nat) (s:ByteArray):seen (xs.take n) (xs.take n).length s=seen xs n s:=by unfold seen;rw [List.take_length]
structure StSmall (S:StatM):Prop where
 h1:1≤S.buses.length
 h4:S.buses.length≤4
 h6:S.lines.length≤6
 h44:S.sources.length≤4
 h16:S.bays.length≤16
theorem zcy {B:Nat} {p:StAt} {S:StatM} {a b c d n:Nat} {W:World} (hm:StSmall S) (hB:B≤W.heap.size) (hS:StC W B p S) (ha:a≤S.buses.length) (hb:b≤S.lines.length) (hc:c≤S.sources.length) (hd:d≤S.bays.length)
 (he:S.someNames a b c d=S.names.take n) (hn:a+b+c+d=n) :
 Calls Tryz.prog 29 #[.agg #[m S.name,f p.A1 S.buses.length p.c1,f p.A2 S.lines.length p.c2,f p.A3 S.sources.length p.c3,f p.A4 S.bays.length p.c4],r .i64 a,r .i64 b,r .i64 c,r .i64 d] W (RetRow 9 1 n ((S.names.take n).map .string) W):=by
 have:=zi7 B p S a b c d W hB hS ha hb hc hd hm.h1 hm.h4 hm.h6 hm.h44 hm.h16;rw [he,hn] at this;exact this
theorem zdc {S:StatM} {n:Nat} {base:Nat} {A:Option Addr} {c:Nat} {s:ByteArray} {W:World} (hm:StSmall S) (hn:n≤S.names.length) (ho:W.ownsRow base 9 1 (f A n c) n ((S.names.take n).map .string)) (hs:∀ x∈S.names,x.size≤maxLen) (hsz:s.size≤maxLen) :
 Calls Tryz.prog 28 #[f A n c,m s] W (ErrSays (NameOk s∧seen S.names n s=false) W):=by
 have hl:(S.names.take n).length=n:=by rw [List.length_take];omega
 have h2:=zbv S;have:=hm.h1;have:=hm.h4;have:=hm.h6;have:=hm.h44;have:=hm.h16;have:=zhL A c W.heap.size (S.names.take n) s W (by rw [hl];exact Rws.of_ownStr ho fun x hx=>hs x (List.mem_of_mem_take hx)) (by rw [hl];omega) hsz;rw [zgY,hl] at this;exact this
theorem zez {w:World} {B:Nat} {p:StAt} {S:StatM} (h:StC w B p S):∀ x∈S.names,x.size≤maxLen:=by
 intro x hx;simp only [StatM.names,List.mem_append,List.mem_map] at hx
 rcases hx with hx | ⟨y,hx,rfl⟩ | ⟨y,hx,rfl⟩ | ⟨y,hx,rfl⟩
 · obtain ⟨cs,hc⟩:=h.buses.all_ x hx;exact hc.2
 · obtain ⟨cs,hc⟩:=h.lines.all_ y hx;exact hc.2
 · obtain ⟨cs,hc⟩:=h.sources.all_ y hx;exact hc.2
 · obtain ⟨cs,A,c,-,hc,-⟩:=h.bays.all_ y hx;exact hc
theorem zbB {α:Type} {p:Nat→α→Prop} {xs:List α} {k:Nat} {x:α} (h:∀ j y,j<k→xs[j]? = some y→p j y) (hx:xs[k]? = some x) (hp:p k x):∀ j y,j<k+1→xs[j]? = some y→p j y:=by
 intro j y hj hy
 rcases Nat.lt_succ_iff_lt_or_eq.1 hj with h' | rfl
 · exact h j y h' hy
 · rw [hx] at hy;cases hy;exact hp
def SC (w':World) (g b o:Nat) (v0 v1 v2 v3 v4 v:Value):Prop:=
 w'.cell? ⟨g,0,l⟩=some v0∧w'.cell? ⟨g,1,l⟩=some v1∧w'.cell? ⟨g,2,l⟩=some v2∧w'.cell? ⟨g,3,l⟩=some v3∧w'.cell? ⟨g,4,l⟩=some v4∧w'.cell? ⟨b,o,l⟩=some v
theorem SC.below {W W':World} {B g b o:Nat} {v0 v1 v2 v3 v4 v:Value} (h:SC W g b o v0 v1 v2 v3 v4 v) (hb:Below B W W') (hg:g<B) (hh:b<B):SC W' g b o v0 v1 v2 v3 v4 v:=by
 obtain ⟨c0,c1,c2,c3,c4,c5⟩:=h;exact ⟨(hb.cell (p:=⟨g,0,l⟩) hg).trans c0,(hb.cell (p:=⟨g,1,l⟩) hg).trans c1,(hb.cell (p:=⟨g,2,l⟩) hg).trans c2,(hb.cell (p:=⟨g,3,l⟩) hg).trans c3,(hb.cell (p:=⟨g,4,l⟩) hg).trans c4,(hb.cell (p:=⟨b,o,l⟩) hh).trans c5⟩
theorem zgQ (B:Nat) (p:StAt) (S:StatM) (w:World) (hB:B≤w.heap.size) (hS:StC w B p S) :
 Calls Tryz.prog 15 #[.agg #[m S.name,f p.A1 S.buses.length p.c1,f p.A2 S.lines.length p.c2,f p.A3 S.sources.length p.c3,f p.A4 S.bays.length p.c4]] w (ErrSays (StF S) w):=by
 have HS:=Hd hS;have HZ:=Hd (zez hS);have hnm:=hS.name;clear hS;have hbox:=zaa w (u #[m S.name,f p.A1 S.buses.length p.c1,f p.A2 S.lines.length p.c2,f p.A3 S.sources.length p.c3,f p.A4 S.bays.length p.c4] 27);have g0:w.heap.size<(w.alloc (u #[m S.name,f p.A1 S.buses.length p.c1,f p.A2 S.lines.length p.c2,f p.A3 S.sources.length p.c3,f p.A4 S.bays.length p.c4] 27)).heap.size:=by simp
 obtain ⟨A1,A2,A3,A4,k1,k2,k3,k4⟩:=p;dsimp only at hbox g0;go_enter Tryz.func15,Tryz.ntmps15;go_wp2_with fail
 refine (zbf S.name _ hnm).mono ?_
 rintro e w1 ⟨b,q,rfl,rfl⟩
 cases b
 · go_wp2
   go_ret
   exact ErrSays.no hbox (by decide)
 have hq:=q rfl;have HN:=Hd hq;clear q hq;go_wp2
 go_quiet (fail)
 by_cases hm:((1:Int)≤(S.buses.length:Int)∧(S.buses.length:Int)≤4)∧(S.lines.length:Int)≤6∧(S.sources.length:Int)≤4∧(S.bays.length:Int)≤16
 case neg =>
  go_wp2
  all_goals first
   | (go_ret;exact ErrSays.no (zag hbox _) (by decide))
   | (exfalso;omega)
   | (exfalso;simp at *;omega)
 obtain ⟨⟨m1,m4⟩,m6,m44,m16⟩:=hm;have HM:Hid (StSmall S):=Hd ⟨by omega,by omega,by omega,by omega,by omega⟩;have q0:((w.alloc (u #[m S.name,f A1 S.buses.length k1,f A2 S.lines.length k2,f A3 S.sources.length k3,f A4 S.bays.length k4] 27)).drewN nq).cell? ⟨w.heap.size,0,l⟩=some (m S.name):=by simp
 have q1:((w.alloc (u #[m S.name,f A1 S.buses.length k1,f A2 S.lines.length k2,f A3 S.sources.length k3,f A4 S.bays.length k4] 27)).drewN nq).cell? ⟨w.heap.size,1,l⟩=some (f A1 S.buses.length k1):=by simp
 have q2:((w.alloc (u #[m S.name,f A1 S.buses.length k1,f A2 S.lines.length k2,f A3 S.sources.length k3,f A4 S.bays.length k4] 27)).drewN nq).cell? ⟨w.heap.size,2,l⟩=some (f A2 S.lines.length k2):=by simp
 have q3:((w.alloc (u #[m S.name,f A1 S.buses.length k1,f A2 S.lines.length k2,f A3 S.sources.length k3,f A4 S.bays.length k4] 27)).drewN nq).cell? ⟨w.heap.size,3,l⟩=some (f A3 S.sources.length k3):=by simp
 have q4:((w.alloc (u #[m S.name,f A1 S.buses.length k1,f A2 S.lines.length k2,f A3 S.sources.length k3,f A4 S.bays.length k4] 27)).drewN nq).cell? ⟨w.heap.size,4,l⟩=some (f A4 S.bays.length k4):=by simp
 have hb1:=zag hbox nq;have g1:w.heap.size<((w.alloc (u #[m S.name,f A1 S.buses.length k1,f A2 S.lines.length k2,f A3 S.sources.length k3,f A4 S.bays.length k4] 27)).drewN nq).heap.size:=by simp
 clear hbox g0;go_wp2;generalize (w.alloc (u #[m S.name,f A1 S.buses.length k1,f A2 S.lines.length k2,f A3 S.sources.length k3,f A4 S.bays.length k4] 27)).drewN nq=W1 at *
 go_loopw [7] (zco W1.heap.size W1 S.buses.length (fun k=>zcu S (k)∧True)) (fun i _=>S.buses.length-(intOf i).toNat)
 case atStart=>exact ⟨0,D _,rfl,⟨fun _ _ h=>absurd h (E _),trivial⟩,Below.refl _ _⟩
 case round =>
  obtain ⟨k,hk,rfl,hpk,hbel⟩:=hrel;obtain ⟨hp1,hp2⟩:=hpk;have HP1:=Hd hp1;have HP2:=Hd hp2;clear hp1 hp2;have hw:=Below.then hb1 hbel
  have hs:=hbel.size;have gw:w.heap.size<wr.heap.size:=by omega
  obtain ⟨p0,p1,p2,p3,p4⟩:=kb5 hbel g1 ⟨q0,q1,q2,q3,q4⟩
  by_cases hlt:k<S.buses.length
  · obtain ⟨b1,o1,cs,x,e1,hbb,hx,-,hC,hat⟩:=(HS.out.buses.mono StrC.mono (t _) (hw.mono hB)).at_ hlt
    have e1':A1=some ⟨b1,o1,l⟩:=e1
    subst e1'
    obtain ⟨rfl,hxs⟩:=hC
    have r0:wr.cell? ⟨b1,o1+k,l⟩=some (m x):=by simpa using hat 0 _ rfl
    have hb1':b1<wr.heap.size:=by omega
    have HX:=Hd hx
    have HAT:=Hd hat
    have hk1:(k:Int)<(S.buses.length:Int):=by omega
    have hk0:(0:Int)≤(k:Int):=by omega
    have C1:=fun W' (hb:Below wr.heap.size wr W')=>zcy (a:=k) (b:=0) (c:=0) (d:=0) (n:=k) (W:=W') HM.out (by have:=hb.size;omega) (HS.out.mono (t _) ((Below.then hw hb).mono hB)) (by omega) (by omega) (by omega) (by omega) (some1 (by omega)) (by omega)
    have C2:=fun W' A' c' ho=>zdc (n:=k) (base:=wr.heap.size) (A:=A') (c:=c') (s:=x) (W:=W') HM.out (by have:=zbv S;omega) ho HZ.out hxs
    have HC1:=Hd C1
    have HC2:=Hd C2
    have sc:SC wr w.heap.size b1 (o1+k) (m S.name) (f (some ⟨b1,o1,l⟩) S.buses.length k1) (f A2 S.lines.length k2) (f A3 S.sources.length k3) (f A4 S.bays.length k4) (m x):=⟨p0,p1,p2,p3,p4,r0⟩
    have HSC:=Hd sc
    clear C1 C2 hx hat sc e1 hxs
    go_wp2_with fail
    go_region_held3 (fun w'=>w'.cell? ⟨w.heap.size,0,l⟩=some (m S.name)∧w'.cell? ⟨w.heap.size,1,l⟩=some (f (some ⟨b1,o1,l⟩) S.buses.length k1)∧w'.cell? ⟨w.heap.size,2,l⟩=some (f A2 S.lines.length k2)∧w'.cell? ⟨w.heap.size,3,l⟩=some (f A3 S.sources.length k3)∧w'.cell? ⟨w.heap.size,4,l⟩=some (f A4 S.bays.length k4)∧w'.cell? ⟨b1,o1+k,l⟩=some (m x)) (first | go_keep | exact s2 | exact s3)
     (first
      | ((go_at_call 29;refine (HC1.out _ (zag (Below.refl _ _) 1)).mono ?_;rintro e w2 ⟨A6,c6,rfl,-,-,ho2,hb2'⟩;have hb2:=za8 (a:=wr) (B':=wr.heap.size) hb2' rfl rfl rfl rfl (t _);have s2:=HSC.out.below hb2 gw hb1'))
      | ((go_at_call 28;refine (HC2.out _ _ _ ho2).mono ?_;rintro e w3 ⟨n3,q5,rfl,hb3'⟩;have hb3:=hb2.trans (hb3'.mono hb2.size);have s3:=HSC.out.below hb3 gw hb1')))
    have hw3:=Below.then hw hb3
    have hbel3:=hbel.trans (hb3.mono hs)
    have g3:w.heap.size<w3.heap.size:=by have:=hb3.size;omega
    have gb3:b1<w3.heap.size:=by have:=hb3.size;omega
    clear HC1 HC2 ho2 hb2' hb2 s2 hb3' p0 p1 p2 p3 p4 r0
    cases hz:(n3 != 0)
    case true =>
     go_wp2
     go_ret
     exact ErrSays.no hw3 (by simpa using hz)
    have HQ5:=Hd (q5 (by simpa using hz))
    clear q5 s3
    go_wp2
    go_roundw
    case rel=>exact ⟨k+1,by omega,by go_num,⟨zbY HP1.out (zdy HX.out) HQ5.out,trivial⟩,hbel3⟩
    case measure=>simp [intOf];omega
  · obtain rfl:k=S.buses.length:=by omega
    have HU0:=Hd HP1.out
    have HF0:=Hd HP2.out
    have hbel0:=hbel
    clear HP1 HP2 hbel hs gw
    go_wp2
    clear hw p0 p1 p2 p3 p4
    go_loopw [9] (zco W1.heap.size W1 S.lines.length (fun k=>zcu S (S.buses.length+k)∧∀ (j:Nat) (x:LineM),j<k→S.lines[j]? = some x→zkP x)) (fun i _=>S.lines.length-(intOf i).toNat)
    case atStart=>exact ⟨0,D _,rfl,⟨HU0.out,fun _ _ h=>absurd h (E _)⟩,hbel0⟩
    case round =>
     clear hbel0
     obtain ⟨k,hk,rfl,hpk,hbel⟩:=hrel
     obtain ⟨hp1,hp2⟩:=hpk
     have HP1:=Hd hp1
     have HP2:=Hd hp2
     clear hp1 hp2
     have hw:=Below.then hb1 hbel
     have hs:=hbel.size
     have gw:w.heap.size<wr.heap.size:=by omega
     obtain ⟨p0,p1,p2,p3,p4⟩:=kb5 hbel g1 ⟨q0,q1,q2,q3,q4⟩
     by_cases hlt:k<S.lines.length
     · obtain ⟨b1,o1,cs,x,e1,hbb,hx,-,hC,hat⟩:=(HS.out.lines.mono LineC.mono (t _) (hw.mono hB)).at_ hlt
       have e1':A2=some ⟨b1,o1,l⟩:=e1
       subst e1'
       obtain ⟨rfl,hxs⟩:=hC
       have r0:wr.cell? ⟨b1,o1+k*5,l⟩=some (m x.name):=by simpa using hat 0 _ rfl
       have hb1':b1<wr.heap.size:=by omega
       have HX:=Hd hx
       have HAT:=Hd hat
       have hk1:(k:Int)<(S.lines.length:Int):=by omega
       have hk0:(0:Int)≤(k:Int):=by omega
       have C1:=fun W' (hb:Below wr.heap.size wr W')=>zcy (a:=S.buses.length) (b:=k) (c:=0) (d:=0) (n:=S.buses.length+k) (W:=W') HM.out (by have:=hb.size;omega) (HS.out.mono (t _) ((Below.then hw hb).mono hB)) (by omega) (by omega) (by omega) (by omega) (some2 (by omega)) (by omega)
       have C2:=fun W' A' c' ho=>zdc (n:=S.buses.length+k) (base:=wr.heap.size) (A:=A') (c:=c') (s:=x.name) (W:=W') HM.out (by have:=zbv S;omega) ho HZ.out hxs
       have HC1:=Hd C1
       have HC2:=Hd C2
       have sc:SC wr w.heap.size b1 (o1+k*5) (m S.name) (f A1 S.buses.length k1) (f (some ⟨b1,o1,l⟩) S.lines.length k2) (f A3 S.sources.length k3) (f A4 S.bays.length k4) (m x.name):=⟨p0,p1,p2,p3,p4,r0⟩
       have HSC:=Hd sc
       clear C1 C2 hx hat sc e1 hxs
       go_wp2_with fail
       go_region_held3 (fun w'=>w'.cell? ⟨w.heap.size,0,l⟩=some (m S.name)∧w'.cell? ⟨w.heap.size,1,l⟩=some (f A1 S.buses.length k1)∧w'.cell? ⟨w.heap.size,2,l⟩=some (f (some ⟨b1,o1,l⟩) S.lines.length k2)∧w'.cell? ⟨w.heap.size,3,l⟩=some (f A3 S.sources.length k3)∧w'.cell? ⟨w.heap.size,4,l⟩=some (f A4 S.bays.length k4)∧w'.cell? ⟨b1,o1+k*5,l⟩=some (m x.name)) (first | go_keep | exact s2 | exact s3)
        (first
         | ((go_at_call 29;refine (HC1.out _ (zag (Below.refl _ _) 1)).mono ?_;rintro e w2 ⟨A6,c6,rfl,-,-,ho2,hb2'⟩;have hb2:=za8 (a:=wr) (B':=wr.heap.size) hb2' rfl rfl rfl rfl (t _);have s2:=HSC.out.below hb2 gw hb1'))
         | ((go_at_call 28;refine (HC2.out _ _ _ ho2).mono ?_;rintro e w3 ⟨n3,q5,rfl,hb3'⟩;have hb3:=hb2.trans (hb3'.mono hb2.size);have s3:=HSC.out.below hb3 gw hb1')))
       have hw3:=Below.then hw hb3
       have hbel3:=hbel.trans (hb3.mono hs)
       have g3:w.heap.size<w3.heap.size:=by have:=hb3.size;omega
       have gb3:b1<w3.heap.size:=by have:=hb3.size;omega
       clear HC1 HC2 ho2 hb2' hb2 s2 hb3' p0 p1 p2 p3 p4 r0
       cases hz:(n3 == 0)
       case false =>
        have hz2:(n3 != 0)=true:=by rw [bne_iff_ne];simpa using hz
        go_wp2
        go_ret
        exact ErrSays.no hw3 (by simpa using hz)
       have hz0:n3=0:=by simpa using hz
       have HQ5:=Hd (q5 hz0)
       subst hz0
       clear q5 hz
       obtain ⟨s30,s31,s32,s33,s34,s35⟩:=s3
       have d1:w3.cell? ⟨b1,o1+k*5+1,l⟩=some (r .i64 x.r1):=(hb3.cell (p:=⟨b1,o1+k*5+1,l⟩) hb1').trans (by simpa using HAT.out 1 _ rfl)
       have d2:w3.cell? ⟨b1,o1+k*5+2,l⟩=some (r .i64 x.x1):=(hb3.cell (p:=⟨b1,o1+k*5+2,l⟩) hb1').trans (by simpa using HAT.out 2 _ rfl)
       have d3:w3.cell? ⟨b1,o1+k*5+3,l⟩=some (r .i64 x.r0):=(hb3.cell (p:=⟨b1,o1+k*5+3,l⟩) hb1').trans (by simpa using HAT.out 3 _ rfl)
       have d4:w3.cell? ⟨b1,o1+k*5+4,l⟩=some (r .i64 x.x0):=(hb3.cell (p:=⟨b1,o1+k*5+4,l⟩) hb1').trans (by simpa using HAT.out 4 _ rfl)
       go_wp2_with (first
        | (go_at_call 30;(with_reducible refine (zcA x.r1 x.x1 _).mono ?_);rintro e w4 ⟨b4,q4',rfl,j4⟩;obtain ⟨hc4,hf4⟩:=zcv j4;have g4:w.heap.size<w4.heap.size:=H g3 j4.size;have gb4:b1<w4.heap.size:=H gb3 j4.size;cases b4)
        | (go_at_call 30;(with_reducible refine (zcA x.r0 x.x0 _).mono ?_);rintro e w5 ⟨b5,q5',rfl,j5⟩;cases b5))
       · go_ret
         exact ErrSays.no (Below.then hw3 j4) (by decide)
       · go_ret
         exact ErrSays.no (Below.then (Below.then hw3 j4) j5) (by decide)
       · have hlf:zkP x:=⟨q4' trivial,q5' trivial⟩
         go_roundw
         case rel=>exact ⟨k+1,by omega,by go_num,⟨zbY HP1.out (zdz HX.out) HQ5.out,zcC HP2.out HX.out hlf⟩,hbel3.trans ((Below.then j4 j5 |>.mono (by have:=hb3.size;omega)))⟩
         case measure=>simp [intOf];omega
     · obtain rfl:k=S.lines.length:=by omega
       have HU1:=Hd HP1.out
       have HF1:=Hd HP2.out
       have hbel1:=hbel
       clear HP1 HP2 hbel hs gw
       go_wp2
       clear hw p0 p1 p2 p3 p4
       go_loopw [11] (zco W1.heap.size W1 S.sources.length (fun k=>zcu S (S.buses.length+S.lines.length+k)∧∀ (j:Nat) (x:SourceM),j<k→S.sources[j]? = some x→zel x)) (fun i _=>S.sources.length-(intOf i).toNat)
       case atStart=>exact ⟨0,D _,rfl,⟨HU1.out,fun _ _ h=>absurd h (E _)⟩,hbel1⟩
       case round =>
        clear hbel1
        obtain ⟨k,hk,rfl,hpk,hbel⟩:=hrel
        obtain ⟨hp1,hp2⟩:=hpk
        have HP1:=Hd hp1
        have HP2:=Hd hp2
        clear hp1 hp2
        have hw:=Below.then hb1 hbel
        have hs:=hbel.size
        have gw:w.heap.size<wr.heap.size:=by omega
        obtain ⟨p0,p1,p2,p3,p4⟩:=kb5 hbel g1 ⟨q0,q1,q2,q3,q4⟩
        by_cases hlt:k<S.sources.length
        · obtain ⟨b1,o1,cs,x,e1,hbb,hx,-,hC,hat⟩:=(HS.out.sources.mono SourceC.mono (t _) (hw.mono hB)).at_ hlt
          have e1':A3=some ⟨b1,o1,l⟩:=e1
          subst e1'
          obtain ⟨rfl,hxs⟩:=hC
          have r0:wr.cell? ⟨b1,o1+k*6,l⟩=some (m x.name):=by simpa using hat 0 _ rfl
          have hb1':b1<wr.heap.size:=by omega
          have HX:=Hd hx
          have HAT:=Hd hat
          have hk1:(k:Int)<(S.sources.length:Int):=by omega
          have hk0:(0:Int)≤(k:Int):=by omega
          have C1:=fun W' (hb:Below wr.heap.size wr W')=>zcy (a:=S.buses.length) (b:=S.lines.length) (c:=k) (d:=0) (n:=S.buses.length+S.lines.length+k) (W:=W') HM.out (by have:=hb.size;omega) (HS.out.mono (t _) ((Below.then hw hb).mono hB)) (by omega) (by omega) (by omega) (by omega) (some3 (by omega)) (by omega)
          have C2:=fun W' A' c' ho=>zdc (n:=S.buses.length+S.lines.length+k) (base:=wr.heap.size) (A:=A') (c:=c') (s:=x.name) (W:=W') HM.out (by have:=zbv S;omega) ho HZ.out hxs
          have HC1:=Hd C1
          have HC2:=Hd C2
          have sc:SC wr w.heap.size b1 (o1+k*6) (m S.name) (f A1 S.buses.length k1) (f A2 S.lines.length k2) (f (some ⟨b1,o1,l⟩) S.sources.length k3) (f A4 S.bays.length k4) (m x.name):=⟨p0,p1,p2,p3,p4,r0⟩
          have HSC:=Hd sc
          clear C1 C2 hx hat sc e1 hxs
          go_wp2_with fail
          go_region_held3 (fun w'=>w'.cell? ⟨w.heap.size,0,l⟩=some (m S.name)∧w'.cell? ⟨w.heap.size,1,l⟩=some (f A1 S.buses.length k1)∧w'.cell? ⟨w.heap.size,2,l⟩=some (f A2 S.lines.length k2)∧w'.cell? ⟨w.heap.size,3,l⟩=some (f (some ⟨b1,o1,l⟩) S.sources.length k3)∧w'.cell? ⟨w.heap.size,4,l⟩=some (f A4 S.bays.length k4)∧w'.cell? ⟨b1,o1+k*6,l⟩=some (m x.name)) (first | go_keep | exact s2 | exact s3)
           (first
            | ((go_at_call 29;refine (HC1.out _ (zag (Below.refl _ _) 1)).mono ?_;rintro e w2 ⟨A6,c6,rfl,-,-,ho2,hb2'⟩;have hb2:=za8 (a:=wr) (B':=wr.heap.size) hb2' rfl rfl rfl rfl (t _);have s2:=HSC.out.below hb2 gw hb1'))
            | ((go_at_call 28;refine (HC2.out _ _ _ ho2).mono ?_;rintro e w3 ⟨n3,q5,rfl,hb3'⟩;have hb3:=hb2.trans (hb3'.mono hb2.size);have s3:=HSC.out.below hb3 gw hb1')))
          have hw3:=Below.then hw hb3
          have hbel3:=hbel.trans (hb3.mono hs)
          have g3:w.heap.size<w3.heap.size:=by have:=hb3.size;omega
          have gb3:b1<w3.heap.size:=by have:=hb3.size;omega
          clear HC1 HC2 ho2 hb2' hb2 s2 hb3' p0 p1 p2 p3 p4 r0
          cases hz:(n3 == 0)
          case false =>
           have hz2:(n3 != 0)=true:=by rw [bne_iff_ne];simpa using hz
           go_wp2
           go_ret
           exact ErrSays.no hw3 (by simpa using hz)
          have hz0:n3=0:=by simpa using hz
          have HQ5:=Hd (q5 hz0)
          subst hz0
          clear q5 hz
          obtain ⟨s30,s31,s32,s33,s34,s35⟩:=s3
          have d1:w3.cell? ⟨b1,o1+k*6+1,l⟩=some (r .i64 x.emf):=(hb3.cell (p:=⟨b1,o1+k*6+1,l⟩) hb1').trans (by simpa using HAT.out 1 _ rfl)
          have d2:w3.cell? ⟨b1,o1+k*6+2,l⟩=some (r .i64 x.r1):=(hb3.cell (p:=⟨b1,o1+k*6+2,l⟩) hb1').trans (by simpa using HAT.out 2 _ rfl)
          have d3:w3.cell? ⟨b1,o1+k*6+3,l⟩=some (r .i64 x.x1):=(hb3.cell (p:=⟨b1,o1+k*6+3,l⟩) hb1').trans (by simpa using HAT.out 3 _ rfl)
          have d4:w3.cell? ⟨b1,o1+k*6+4,l⟩=some (r .i64 x.r0):=(hb3.cell (p:=⟨b1,o1+k*6+4,l⟩) hb1').trans (by simpa using HAT.out 4 _ rfl)
          have d5:w3.cell? ⟨b1,o1+k*6+5,l⟩=some (r .i64 x.x0):=(hb3.cell (p:=⟨b1,o1+k*6+5,l⟩) hb1').trans (by simpa using HAT.out 5 _ rfl)
          go_wp2_with (first
           | (go_at_call 31;refine (zgS x _).mono ?_;rintro e w4 ⟨b4,q4',rfl,j4⟩;cases b4))
          · go_ret
            exact ErrSays.no (Below.then hw3 j4) (by decide)
          · have hlf:zel x:=q4' trivial
            go_roundw
            case rel=>exact ⟨k+1,by omega,by go_num,⟨zbY HP1.out (zdA HX.out) HQ5.out,zcC HP2.out HX.out hlf⟩,hbel3.trans (j4.mono (by have:=hb3.size;omega))⟩
            case measure=>simp [intOf];omega
        · obtain rfl:k=S.sources.length:=by omega
          have HU2:=Hd HP1.out
          have HF2:=Hd HP2.out
          have hbel2:=hbel
          clear HP1 HP2 hbel hs gw
          go_wp2
          clear hw p0 p1 p2 p3 p4
          go_loopw [13] (zco W1.heap.size W1 S.bays.length (fun k=>zcu S (S.buses.length+S.lines.length+S.sources.length+k)∧∀ (j:Nat) (x:BayM),j<k→S.bays[j]? = some x→BayF S j x)) (fun i _=>S.bays.length-(intOf i).toNat)
          case atStart=>exact ⟨0,D _,rfl,⟨HU2.out,fun _ _ h=>absurd h (E _)⟩,hbel2⟩
          case round =>
           clear hbel2
           obtain ⟨k,hk,rfl,hpk,hbel⟩:=hrel
           obtain ⟨hp1,hp2⟩:=hpk
           have HP1:=Hd hp1
           have HP2:=Hd hp2
           clear hp1 hp2
           have hw:=Below.then hb1 hbel
           have hs:=hbel.size
           have gw:w.heap.size<wr.heap.size:=by omega
           obtain ⟨p0,p1,p2,p3,p4⟩:=kb5 hbel g1 ⟨q0,q1,q2,q3,q4⟩
           by_cases hlt:k<S.bays.length
           · obtain ⟨b1,o1,cs,x,e1,hbb,hx,-,hC,hat⟩:=(HS.out.bays.mono BayC.mono (t _) (hw.mono hB)).at_ hlt
             have e1':A4=some ⟨b1,o1,l⟩:=e1
             subst e1'
             obtain ⟨A5,c5,rfl,hxs,-,-,-⟩:=hC
             have r0:wr.cell? ⟨b1,o1+k*12,l⟩=some (m x.name):=by simpa using hat 0 _ rfl
             have hb1':b1<wr.heap.size:=by omega
             have HX:=Hd hx
             have HAT:=Hd hat
             have hk1:(k:Int)<(S.bays.length:Int):=by omega
             have hk0:(0:Int)≤(k:Int):=by omega
             have C1:=fun W' (hb:Below wr.heap.size wr W')=>zcy (a:=S.buses.length) (b:=S.lines.length) (c:=S.sources.length) (d:=k) (n:=S.buses.length+S.lines.length+S.sources.length+k) (W:=W') HM.out (by have:=hb.size;omega) (HS.out.mono (t _) ((Below.then hw hb).mono hB)) (by omega) (by omega) (by omega) (by omega) (some4) (by omega)
             have C2:=fun W' A' c' ho=>zdc (n:=S.buses.length+S.lines.length+S.sources.length+k) (base:=wr.heap.size) (A:=A') (c:=c') (s:=x.name) (W:=W') HM.out (by have:=zbv S;omega) ho HZ.out hxs
             have HC1:=Hd C1
             have HC2:=Hd C2
             have sc:SC wr w.heap.size b1 (o1+k*12) (m S.name) (f A1 S.buses.length k1) (f A2 S.lines.length k2) (f A3 S.sources.length k3) (f (some ⟨b1,o1,l⟩) S.bays.length k4) (m x.name):=⟨p0,p1,p2,p3,p4,r0⟩
             have HSC:=Hd sc
             clear C1 C2 hx hat sc e1 hxs
             go_wp2_with fail
             go_region_held3 (fun w'=>w'.cell? ⟨w.heap.size,0,l⟩=some (m S.name)∧w'.cell? ⟨w.heap.size,1,l⟩=some (f A1 S.buses.length k1)∧w'.cell? ⟨w.heap.size,2,l⟩=some (f A2 S.lines.length k2)∧w'.cell? ⟨w.heap.size,3,l⟩=some (f A3 S.sources.length k3)∧w'.cell? ⟨w.heap.size,4,l⟩=some (f (some ⟨b1,o1,l⟩) S.bays.length k4)∧w'.cell? ⟨b1,o1+k*12,l⟩=some (m x.name)) (first | go_keep | exact s2 | exact s3)
              (first
               | ((go_at_call 29;refine (HC1.out _ (zag (Below.refl _ _) 1)).mono ?_;rintro e w2 ⟨A6,c6,rfl,-,-,ho2,hb2'⟩;have hb2:=za8 (a:=wr) (B':=wr.heap.size) hb2' rfl rfl rfl rfl (t _);have s2:=HSC.out.below hb2 gw hb1'))
               | ((go_at_call 28;refine (HC2.out _ _ _ ho2).mono ?_;rintro e w3 ⟨n3,q5,rfl,hb3'⟩;have hb3:=hb2.trans (hb3'.mono hb2.size);have s3:=HSC.out.below hb3 gw hb1')))
             have hw3:=Below.then hw hb3
             have hbel3:=hbel.trans (hb3.mono hs)
             have g3:w.heap.size<w3.heap.size:=by have:=hb3.size;omega
             have gb3:b1<w3.heap.size:=by have:=hb3.size;omega
             clear HC1 HC2 ho2 hb2' hb2 s2 hb3' p0 p1 p2 p3 p4 r0
             cases hz:(n3 == 0)
             case false =>
              have hz2:(n3 != 0)=true:=by rw [bne_iff_ne];simpa using hz
              go_wp2
              go_ret
              exact ErrSays.no hw3 (by simpa using hz)
             have hz0:n3=0:=by simpa using hz
             have HQ5:=Hd (q5 hz0)
             subst hz0
             clear q5 hz
             obtain ⟨s30,s31,s32,s33,s34,s35⟩:=s3
             go_wp2_with (first
              | (go_at_call 32;refine (zkj B ⟨A1,A2,A3,some ⟨b1,o1,l⟩,k1,k2,k3,k4⟩ S k _ (by have:=hw3.size;omega) (HS.out.mono (t _) (hw3.mono hB)) HM.out.h16 hlt).mono ?_;rintro e w4 ⟨n4,q4',rfl,j4⟩;cases hz:(n4 != 0)))
             · have HB:=Hd (q4' (by simpa using hz) x HX.out)
               go_roundw
               case rel=>exact ⟨k+1,by omega,by go_num,⟨zbY HP1.out (zdB HX.out) HQ5.out,zbB HP2.out HX.out HB.out⟩,hbel3.trans (j4.mono (by have:=hb3.size;omega))⟩
               case measure=>simp [intOf];omega
             · go_ret
               exact ErrSays.no (Below.then hw3 j4) (by simpa using hz)
           · obtain rfl:k=S.bays.length:=by omega
             have HU3:=Hd HP1.out
             have HF3:=Hd HP2.out
             have hbel3:=hbel
             clear HP1 HP2 hbel hs gw
             go_wp2
             go_ret
             exact ErrSays.of hw fun _=>⟨HN.out,⟨HM.out.h1,HM.out.h4⟩,HM.out.h6,HM.out.h44,HM.out.h16,fun j x hx=>HU3.out j x (by have h1:=(List.getElem?_eq_some_iff.1 hx).1;have:=zbv S;omega) hx,fun j x hx=>HF1.out j x (List.getElem?_eq_some_iff.1 hx).1 hx,fun j x hx=>HF2.out j x (List.getElem?_eq_some_iff.1 hx).1 hx,fun j x hx=>HF3.out j x (List.getElem?_eq_some_iff.1 hx).1 hx⟩
end Go.Proofs.YtjkimieapfbhbaaGreatDoor
