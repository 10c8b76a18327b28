/-
 The reference's test of a relay's kind and bay.
-/
import Derived.Test.YtjkimieapfbhbaaGreatDoorKVd
import Derived.Test.YtjkimieapfbhbaaGreatDoorKYb
set_option maxRecDepth 100000
set_option maxHeartbeats 8000000
open Go.Value renaming slice → f, string → g, int → u
open Go.Obj renaming cells → q
open Option renaming none → s
open Go.IntKind renaming i64 → C
open Nat renaming le_refl → D, zero_le → E, not_lt_zero → F, le_trans → G, le_of_lt → H
open List renaming length_map → I
open Go.World renaming ownsRow_nil → J
namespace Go.Proofs.YtjkimieapfbhbaaGreatDoor
open Go.RowKit
def zfq (xs:List RelayX) (b:Int) (n:Nat):Prop:=∀ (k:Nat) (y:RelayX),k<n→xs[k]? = some y→y.n.bay≠b
theorem zec {xs:List RelayX} {b:Int} {n:Nat} {y:RelayX} (h:zfq xs b n) (hy:xs[n]? = some y) (hn:y.n.bay≠b):zfq xs b (n+1):=by
 intro k z hk hz
 rcases Nat.lt_succ_iff_lt_or_eq.1 hk with h' | rfl
 · exact h k z h' hz
 · rw [hy] at hz;cases hz;exact hn
def PlR (B:Nat) (W:World) (xs:List RelayX) (b:Int) (n:Nat) (i:Value) (wr:World):Prop:=∃ k:Nat,k≤n∧i = u C k∧zfq xs b k∧Below B W wr
def ziu (S:StatM) (k b:Int):Prop:=(k=4∧b = -1)∨((k=1∨k=2∨k=3)∧0≤b∧∃ y,S.bays[b.toNat]? = some y∧y.kind=k)
theorem zfv {w:World} {B:Nat} {cs:List Value} {y:RelayX} (h:RelayXC w B cs y):cs[2]? = some (u C y.n.bay):=by
 obtain ⟨a,b,c,d,e⟩:=h.cells;rw [e];rfl
theorem zhM (B:Nat) (p:StAt) (S:StatM) (A:Option Addr) (c:Nat) (xs:List RelayX) (i:Nat) (hi:i≤xs.length) (hx20:xs.length≤20) (nm:ByteArray) (k:Int) (n:NumM) (c49 c50 c51 c52:Value) (cs:List Value) (hcs:cs=zbd nm k n c49 c50 c51 c52) (w:World)
 (hB:B≤w.heap.size) (hS:StC w B p S) (hr:Rws RelayXC 53 w B A xs.length xs) :
 Calls Tryz.prog 56 #[.agg #[g S.name,f p.A1 S.buses.length p.c1,f p.A2 S.lines.length p.c2,f p.A3 S.sources.length p.c3,f p.A4 S.bays.length p.c4],f A i c,.agg cs.toArray] w
  (ErrSays (ziu S k n.bay∧zfq xs n.bay i) w):=by
 have HS:=Hd hS;have HR:=Hd hr;clear hS hr;obtain ⟨A1,A2,A3,A4,k1,k2,k3,k4⟩:=p;have q4:((w.alloc (q #[g S.name,f A1 S.buses.length k1,f A2 S.lines.length k2,f A3 S.sources.length k3,f A4 S.bays.length k4] 27)).alloc (q cs.toArray 60)).cell? ⟨w.heap.size,4,s⟩=some (f A4 S.bays.length k4):=by simp
 have p1:((w.alloc (q #[g S.name,f A1 S.buses.length k1,f A2 S.lines.length k2,f A3 S.sources.length k3,f A4 S.bays.length k4] 27)).alloc (q cs.toArray 60)).cell? ⟨w.heap.size+1,1,s⟩=some (u C k):=by
  simpa using zaI (w:=w.alloc (q #[g S.name,f A1 S.buses.length k1,f A2 S.lines.length k2,f A3 S.sources.length k3,f A4 S.bays.length k4] 27)) (cs:=cs) (t := 60) (k:=1) (v := u C k) (by rw [hcs];rfl)
 have p2:((w.alloc (q #[g S.name,f A1 S.buses.length k1,f A2 S.lines.length k2,f A3 S.sources.length k3,f A4 S.bays.length k4] 27)).alloc (q cs.toArray 60)).cell? ⟨w.heap.size+1,2,s⟩=some (u C n.bay):=by
  simpa using zaI (w:=w.alloc (q #[g S.name,f A1 S.buses.length k1,f A2 S.lines.length k2,f A3 S.sources.length k3,f A4 S.bays.length k4] 27)) (cs:=cs) (t := 60) (k:=2) (v := u C n.bay) (by rw [hcs];rfl)
 have hb:=zbq w (q #[g S.name,f A1 S.buses.length k1,f A2 S.lines.length k2,f A3 S.sources.length k3,f A4 S.bays.length k4] 27) (q cs.toArray 60);have hsz:((w.alloc (q #[g S.name,f A1 S.buses.length k1,f A2 S.lines.length k2,f A3 S.sources.length k3,f A4 S.bays.length k4] 27)).alloc (q cs.toArray 60)).heap.size=w.heap.size+2:=by simp
 have HSZ:=Hd hsz;clear hsz hcs
 have hk:(k=1∨k=2∨k=3)∨k=4∨((k == 1)=false∧(k == 2)=false∧(k == 3)=false∧(k == 4)=false):=by
  simp only [beq_eq_false_iff_ne];omega
 -- the loop,once the seat is known
 have L:ziu S k n.bay→∀ W:World,True:=fun _ _=>trivial
 clear L
 rcases hk with hk | hk | ⟨g1,g2,g3,g4⟩
 case inr.inr =>
  go_enter Tryz.func56,Tryz.ntmps56;go_wp2;go_ret
  exact ErrSays.no hb (by decide)
 case inr.inl =>
  subst hk
  cases hm:(n.bay != -1)
  case true =>
   go_enter Tryz.func56,Tryz.ntmps56;go_wp2;go_ret
   exact ErrSays.no hb (by decide)
  have hseat:ziu S 4 n.bay := .inl ⟨rfl,by simpa using hm⟩;have HSE:=Hd hseat;clear hseat;go_enter Tryz.func56,Tryz.ntmps56;go_wp2;generalize (w.alloc (q #[g S.name,f A1 S.buses.length k1,f A2 S.lines.length k2,f A3 S.sources.length k3,f A4 S.bays.length k4] 27)).alloc (q cs.toArray 60)=W at *
  go_loopw [8] (PlR W.heap.size W xs n.bay i) (fun j _=>i-(intOf j).toNat)
  case atStart=>exact ⟨0,E _,rfl,fun _ _ h=>absurd h (F _),Below.refl _ _⟩
  case round =>
   obtain ⟨j,hj,rfl,hu,hbel⟩:=hrel;have HU:=Hd hu;have hw:=Below.then hb hbel
   have hs:=hbel.size;have hsz:=HSZ.out;have g1:w.heap.size+1<wr.heap.size:=by omega
   have p2':=(hbel.cell (p:=⟨w.heap.size+1,2,s⟩) (by show w.heap.size+1<_;omega)).trans p2;clear hu hsz
   by_cases hlt:j<i
   · obtain ⟨b1,o1,ds,y,rfl,hb1,hy,hl,hR,hat⟩:=(HR.out.mono RelayXC.mono (D _) (hw.mono hB)).at_ (k:=j) (by omega)
     have d2:wr.cell? ⟨b1,o1+j*53+2,s⟩=some (u C y.n.bay):=hat 2 _ (zfv hR)
     have HY:=Hd hy
     have hb1':b1<wr.heap.size:=by omega
     have hj0:(0:Int)≤(j:Int):=by omega
     have hji:(j:Int)<(i:Int):=by omega
     clear hy hR hat hl
     cases hq:(y.n.bay == n.bay)
     all_goals
      go_wp2
      go_quiet (fail)
      go_wp2
      first
       | (go_ret;exact ErrSays.no (zag hw _) (by decide))
       | (go_roundw
          case rel=>exact ⟨j+1,by omega,by go_num,zec HU.out HY.out (by simpa using hq),zag hbel _⟩
          case measure=>simp [intOf];omega)
   · obtain rfl:i=j:=by omega
     go_wp2
     go_ret
     exact ErrSays.of hw fun _=>⟨HSE.out,HU.out⟩
 case inl =>
  have hkk:k=1∨k=2∨k=3:=hk
  by_cases hlo:n.bay<0
  case pos =>
   rcases hk with rfl | rfl | rfl
   all_goals
    go_enter Tryz.func56,Tryz.ntmps56;go_wp2;go_ret
    exact ErrSays.no hb (by decide)
  by_cases hhi:(S.bays.length:Int)≤n.bay
  case pos =>
   have hlo':0≤n.bay:=by omega
   rcases hk with rfl | rfl | rfl
   all_goals
    go_enter Tryz.func56,Tryz.ntmps56;go_wp2;go_ret
    exact ErrSays.no hb (by decide)
  obtain ⟨m,hm⟩:∃ m:Nat,n.bay=(m:Int):=⟨n.bay.toNat,by omega⟩;have hml:m<S.bays.length:=by omega
  obtain ⟨b,o,ds,y,e4,hbb,hy,-,⟨A5,c5,rfl,-,-,-,-⟩,hat⟩:=HS.out.bays.at_ hml;have e4':A4=some ⟨b,o,s⟩:=e4;subst e4';clear e4;have hW:((w.alloc (q #[g S.name,f A1 S.buses.length k1,f A2 S.lines.length k2,f A3 S.sources.length k3,f (some ⟨b,o,s⟩) S.bays.length k4] 27)).alloc (q cs.toArray 60)).cell? ⟨b,o+m*12+1,s⟩=some (u C y.kind):=(hb.cell (p:=⟨b,o+m*12+1,s⟩) (by show b<_;omega)).trans (hat 1 _ rfl);have hb':b<w.heap.size:=by omega
  have HY:=Hd hy;have hlo0:(0:Int)≤(m:Int):=by omega
  have hhi0:(m:Int)<(S.bays.length:Int):=by omega
  rw [hm] at p2 ⊢;clear hm hlo hhi hy hat
  rcases hk with rfl | rfl | rfl
  · cases ht:(y.kind != 1)
    case true =>
     go_enter Tryz.func56,Tryz.ntmps56
     go_wp2
     go_ret
     exact ErrSays.no hb (by decide)
    have hseat:ziu S 1 (m:Int) := .inr ⟨hkk,hlo0,y,by simpa using HY.out,by simpa using ht⟩
    have HSE:=Hd hseat
    clear hseat hkk HY
    go_enter Tryz.func56,Tryz.ntmps56
    go_wp2
    generalize (w.alloc (q #[g S.name,f A1 S.buses.length k1,f A2 S.lines.length k2,f A3 S.sources.length k3,f (some ⟨b,o,s⟩) S.bays.length k4] 27)).alloc (q cs.toArray 60)=W at *
    go_loopw [8] (PlR W.heap.size W xs (m:Int) i) (fun j _=>i-(intOf j).toNat)
    case atStart=>exact ⟨0,E _,rfl,fun _ _ h=>absurd h (F _),Below.refl _ _⟩
    case round =>
     obtain ⟨j,hj,rfl,hu,hbel⟩:=hrel
     have HU:=Hd hu
     have hw:=Below.then hb hbel
     have hs:=hbel.size
     have hsz:=HSZ.out
     have g1:w.heap.size+1<wr.heap.size:=by omega
     have p2':=(hbel.cell (p:=⟨w.heap.size+1,2,s⟩) (by show w.heap.size+1<_;omega)).trans p2
     clear hu hsz
     by_cases hlt:j<i
     · obtain ⟨b1,o1,ds,y,rfl,hb1,hy,hl,hR,hat⟩:=(HR.out.mono RelayXC.mono (D _) (hw.mono hB)).at_ (k:=j) (by omega)
       have d2:wr.cell? ⟨b1,o1+j*53+2,s⟩=some (u C y.n.bay):=hat 2 _ (zfv hR)
       have HY:=Hd hy
       have hb1':b1<wr.heap.size:=by omega
       have hj0:(0:Int)≤(j:Int):=by omega
       have hji:(j:Int)<(i:Int):=by omega
       clear hy hR hat hl
       cases hq:(y.n.bay == (m:Int))
       all_goals
        go_wp2
        go_quiet (fail)
        go_wp2
        first
         | (go_ret;exact ErrSays.no (zag hw _) (by decide))
         | (go_roundw
            case rel=>exact ⟨j+1,by omega,by go_num,zec HU.out HY.out (by simpa using hq),zag hbel _⟩
            case measure=>simp [intOf];omega)
     · obtain rfl:i=j:=by omega
       go_wp2
       go_ret
       exact ErrSays.of hw fun _=>⟨HSE.out,HU.out⟩
  · cases ht:(y.kind != 2)
    case true =>
     go_enter Tryz.func56,Tryz.ntmps56
     go_wp2
     go_ret
     exact ErrSays.no hb (by decide)
    have hseat:ziu S 2 (m:Int) := .inr ⟨hkk,hlo0,y,by simpa using HY.out,by simpa using ht⟩
    have HSE:=Hd hseat
    clear hseat hkk HY
    go_enter Tryz.func56,Tryz.ntmps56
    go_wp2
    generalize (w.alloc (q #[g S.name,f A1 S.buses.length k1,f A2 S.lines.length k2,f A3 S.sources.length k3,f (some ⟨b,o,s⟩) S.bays.length k4] 27)).alloc (q cs.toArray 60)=W at *
    go_loopw [8] (PlR W.heap.size W xs (m:Int) i) (fun j _=>i-(intOf j).toNat)
    case atStart=>exact ⟨0,E _,rfl,fun _ _ h=>absurd h (F _),Below.refl _ _⟩
    case round =>
     obtain ⟨j,hj,rfl,hu,hbel⟩:=hrel
     have HU:=Hd hu
     have hw:=Below.then hb hbel
     have hs:=hbel.size
     have hsz:=HSZ.out
     have g1:w.heap.size+1<wr.heap.size:=by omega
     have p2':=(hbel.cell (p:=⟨w.heap.size+1,2,s⟩) (by show w.heap.size+1<_;omega)).trans p2
     clear hu hsz
     by_cases hlt:j<i
     · obtain ⟨b1,o1,ds,y,rfl,hb1,hy,hl,hR,hat⟩:=(HR.out.mono RelayXC.mono (D _) (hw.mono hB)).at_ (k:=j) (by omega)
       have d2:wr.cell? ⟨b1,o1+j*53+2,s⟩=some (u C y.n.bay):=hat 2 _ (zfv hR)
       have HY:=Hd hy
       have hb1':b1<wr.heap.size:=by omega
       have hj0:(0:Int)≤(j:Int):=by omega
       have hji:(j:Int)<(i:Int):=by omega
       clear hy hR hat hl
       cases hq:(y.n.bay == (m:Int))
       all_goals
        go_wp2
        go_quiet (fail)
        go_wp2
        first
         | (go_ret;exact ErrSays.no (zag hw _) (by decide))
         | (go_roundw
            case rel=>exact ⟨j+1,by omega,by go_num,zec HU.out HY.out (by simpa using hq),zag hbel _⟩
            case measure=>simp [intOf];omega)
     · obtain rfl:i=j:=by omega
       go_wp2
       go_ret
       exact ErrSays.of hw fun _=>⟨HSE.out,HU.out⟩
  · cases ht:(y.kind != 3)
    case true =>
     go_enter Tryz.func56,Tryz.ntmps56
     go_wp2
     go_ret
     exact ErrSays.no hb (by decide)
    have hseat:ziu S 3 (m:Int) := .inr ⟨hkk,hlo0,y,by simpa using HY.out,by simpa using ht⟩
    have HSE:=Hd hseat
    clear hseat hkk HY
    go_enter Tryz.func56,Tryz.ntmps56
    go_wp2
    generalize (w.alloc (q #[g S.name,f A1 S.buses.length k1,f A2 S.lines.length k2,f A3 S.sources.length k3,f (some ⟨b,o,s⟩) S.bays.length k4] 27)).alloc (q cs.toArray 60)=W at *
    go_loopw [8] (PlR W.heap.size W xs (m:Int) i) (fun j _=>i-(intOf j).toNat)
    case atStart=>exact ⟨0,E _,rfl,fun _ _ h=>absurd h (F _),Below.refl _ _⟩
    case round =>
     obtain ⟨j,hj,rfl,hu,hbel⟩:=hrel
     have HU:=Hd hu
     have hw:=Below.then hb hbel
     have hs:=hbel.size
     have hsz:=HSZ.out
     have g1:w.heap.size+1<wr.heap.size:=by omega
     have p2':=(hbel.cell (p:=⟨w.heap.size+1,2,s⟩) (by show w.heap.size+1<_;omega)).trans p2
     clear hu hsz
     by_cases hlt:j<i
     · obtain ⟨b1,o1,ds,y,rfl,hb1,hy,hl,hR,hat⟩:=(HR.out.mono RelayXC.mono (D _) (hw.mono hB)).at_ (k:=j) (by omega)
       have d2:wr.cell? ⟨b1,o1+j*53+2,s⟩=some (u C y.n.bay):=hat 2 _ (zfv hR)
       have HY:=Hd hy
       have hb1':b1<wr.heap.size:=by omega
       have hj0:(0:Int)≤(j:Int):=by omega
       have hji:(j:Int)<(i:Int):=by omega
       clear hy hR hat hl
       cases hq:(y.n.bay == (m:Int))
       all_goals
        go_wp2
        go_quiet (fail)
        go_wp2
        first
         | (go_ret;exact ErrSays.no (zag hw _) (by decide))
         | (go_roundw
            case rel=>exact ⟨j+1,by omega,by go_num,zec HU.out HY.out (by simpa using hq),zag hbel _⟩
            case measure=>simp [intOf];omega)
     · obtain rfl:i=j:=by omega
       go_wp2
       go_ret
       exact ErrSays.of hw fun _=>⟨HSE.out,HU.out⟩
set_option maxHeartbeats 16000000
def zkT (x:RelayX) (k:Nat):Prop:=∀ (j:Nat) (y:ByteArray × List ByteArray),j<k→x.r.sets[j]? = some y→SetF x.r.sets j y
def zkQ (x:RelayX) (k:Nat):Prop:=∀ (j:Nat) (y:PubN),j<k→x.pubs[j]? = some y→PubF x.pubs j y
def zkV (x:RelayX) (k:Nat):Prop:=∀ (j:Nat) (y:SubM),j<k→x.r.subs[j]? = some y→SubF x.r.subs j y
def zkU (l:List ByteArray) (k:Nat):Prop:=∀ (j:Nat) (y:ByteArray),j<k→l[j]? = some y→NameOk y
theorem zhK (cs:List Value) (x:RelayX) (B:Nat) (w:World) (hB:B≤w.heap.size) (h:RelayXC w B cs x) (hn1:x.r.sets.length≤4) (hn2:x.pubs.length≤4) (hn3:x.r.subs.length≤24) :
 Calls Tryz.prog 62 #[.agg cs.toArray] w (ErrSays (ListsF x) w):=by
 obtain ⟨i0,hi,hz0,hz1,hz2⟩:=info_parts zbn;obtain ⟨c50,h50,A1,k1,e1,l1,m1,R1⟩:=h.base.sets;obtain ⟨c51,h51,A2,k2,e2,l2,m2,R2⟩:=h.pubs;obtain ⟨c52,h52,A3,k3,e3,l3,m3,R3⟩:=h.base.subs
 cases e1;cases e2;cases e3
 clear h;have q50:=zaI (w:=w) (t := 60) h50;have q51:=zaI (w:=w) (t := 60) h51;have q52:=zaI (w:=w) (t := 60) h52;have hb:=zaa w (q cs.toArray 60);have g0:w.heap.size<(w.alloc (q cs.toArray 60)).heap.size:=by simp
 have s1:∀ z∈x.r.sets.map (·.1),z.size≤maxLen:=by
  intro z hz;obtain ⟨y,hy,rfl⟩:=List.mem_map.1 hz;obtain ⟨cs',c,-,hc,-⟩:=R1.all_ y hy;exact hc
 have s2:∀ z∈x.pubs.map (·.set),z.size≤maxLen:=by
  intro z hz;obtain ⟨y,hy,rfl⟩:=List.mem_map.1 hz;obtain ⟨cs',-,hc⟩:=R2.all_ y hy;exact hc
 have s3:∀ z∈x.r.subs.map (·.loc),z.size≤maxLen:=by
  intro z hz;obtain ⟨y,hy,rfl⟩:=List.mem_map.1 hz;obtain ⟨cs',-,hc,-⟩:=R3.all_ y hy;exact hc
 have HS1:=Hd s1;have HS2:=Hd s2;have HS3:=Hd s3;have n1:(x.r.sets.map (·.1)).length=x.r.sets.length:=I ..;have n2:(x.pubs.map (·.set)).length=x.pubs.length:=I ..;have n3:(x.r.subs.map (·.loc)).length=x.r.subs.length:=I ..;have HN1:=Hd n1;have HN2:=Hd n2;have HN3:=Hd n3;have HR1:=Hd R1;have HR2:=Hd R2;have HR3:=Hd R3;clear h50 h51 h52 s1 s2 s3 n1 n2 n3 R1 R2 R3;go_enter Tryz.func62,Tryz.ntmps62;go_wp2;generalize w.alloc (q cs.toArray 60)=W at *
 go_loopw [3,4] (Gath (x.r.sets.map (·.1)) (zkT x) W.heap.size W) (fun _ i _=>x.r.sets.length-(intOf i).toNat)
 case atStart=>exact ⟨0,E _,rfl,J _ _ _ _,fun _ _ h=>absurd h (F _),Below.refl _ _⟩
 case round =>
  skip
  obtain ⟨k,hk,rfl,hown,hu,hbel⟩:=hrel;have hk':k≤x.r.sets.length:=by have:=HN1.out;omega
  clear hk;have HU:=Hd hu;have hw:=Below.then hb hbel
  have hs:=hbel.size;have p0:=(hbel.cell (p:=⟨w.heap.size,50,s⟩) g0).trans q50;have gw:w.heap.size<wr.heap.size:=by omega
  clear hu
  by_cases hlt:k<x.r.sets.length
  · obtain ⟨b,o,ds,y,rfl,hbB,hy,-,⟨c5,rfl,hy1,A5,k5,e5,l5,m5,R5⟩,hat⟩:=(HR1.out.mono SetC.mono (D _) (hw.mono hB)).at_ hlt
    cases e5
    obtain ⟨Av,cv,rfl,hcv,hmv⟩:=zac hown
    have HO:=Hd hown
    have d0:wr.cell? ⟨b,o+k*2,s⟩=some (g y.1):=by simpa using hat 0 _ rfl
    have d1:wr.cell? ⟨b,o+k*2+1,s⟩=some (f A5 y.2.length k5):=hat 1 _ rfl
    have hb':b<wr.heap.size:=by omega
    have HY:=Hd hy
    have hk0:(0:Int)≤(k:Int):=by omega
    have hk1:(k:Int)<(x.r.sets.length:Int):=by omega
    clear hy hat hown
    have hbx:=zaa wr (q #[g y.1,f A5 y.2.length k5] 146)
    have g2:wr.heap.size<(wr.alloc (q #[g y.1,f A5 y.2.length k5] 146)).heap.size:=by simp
    have hown2:=zab HO.out hbx (D _)
    have HO2:=Hd hown2
    clear hown2
    go_wp2_with fail
    refine (zbf y.1 _ hy1).mono ?_
    rintro e w1 ⟨b1,t1,rfl,rfl⟩
    cases b1
    · go_wp2
      go_ret
      exact ErrSays.no (Below.then hw hbx) (by decide)
    have HA:=Hd (t1 rfl)
    clear t1
    have HR5:=Hd (R5.mono StrC.mono (D _) (hbx.mono (G hB hw.size)))
    clear R5
    unfold maxLen at m5
    go_wp2
    go_loop [6] (fun j=>∃ l:Nat,l≤y.2.length∧j = u C l∧zkU y.2 l) (fun j=>y.2.length-(intOf j).toNat)
    case atStart=>exact ⟨0,E _,rfl,fun _ _ h=>absurd h (F _)⟩
    case round =>
     obtain ⟨l,hl,rfl,hsg⟩:=hrel
     have HSG:=Hd hsg
     clear hsg
     by_cases hlt2:l<y.2.length
     · obtain ⟨b3,o3,s3,rfl,hb3,hs3,hz3,hc3⟩:=HR5.out.strAt hlt2
       have HS3':=Hd hs3
       have hl0:(0:Int)≤(l:Int):=by omega
       have hl1:(l:Int)<(y.2.length:Int):=by omega
       clear hs3
       go_wp2_with fail
       refine (zbf s3 _ hz3).mono ?_
       rintro e w1 ⟨b1,t1,rfl,rfl⟩
       cases b1
       · go_wp2
         go_ret
         exact ErrSays.no (Below.then hw hbx) (by decide)
       have HT:=Hd (t1 rfl)
       clear t1
       go_wp2
       go_round
       case rel=>exact ⟨l+1,by omega,by go_num,zbB HSG.out HS3'.out HT.out⟩
       case measure=>simp [intOf];omega
     · obtain rfl:l=y.2.length:=by omega
       go_wp2_with fail
       refine (zcw (xs:=x.r.sets.map (·.1)) HO2.out (by have:=HN1.out;omega) (by have:=HN1.out;omega) HS1.out).mono ?_
       rintro e w3 ⟨m,t3,rfl,rfl⟩
       by_cases h0:0≤m
       · go_wp2
         go_ret
         exact ErrSays.no (Below.then hw hbx) (by decide)
       have HT3:=Hd (t3 (by omega))
       clear t3
       have HRF:Hid (SetF x.r.sets k y):=Hd ⟨HA.out,fun j z hz=>HSG.out j z (List.getElem?_eq_some_iff.1 hz).1 hz,HT3.out⟩
       have hbel2:=hbel.trans (hbx.mono hs)
       go_wp2_with (first
        | (at_builtin;refine zaK _ _ 22 rfl rfl Tryz.underlying22 hi hz0 hz1 hz2 rfl (by decide) rfl HO2.out hbel2 (wr.heap.size+1) (by simp) rfl rfl (by simp [Value.oneCell']) (by omega) (by unfold maxLen;omega) (G hs (H g2)) ?_;intro v' w' hown' hbel' _)
        | (go_at_call 85;refine (zaJ _ _ _ _).mono ?_;rintro e w' ⟨rfl,rfl⟩))
       go_roundw
       case rel=>exact ⟨k+1,by have:=HN1.out;omega,by go_num,by rw [zc6 (zey (·.1) HY.out)];exact hown',zbB HU.out HY.out HRF.out,hbel'⟩
       case measure=>simp [intOf];omega
  · obtain rfl:k=x.r.sets.length:=by omega
    have HF1:=Hd HU.out
    have hbel1:=hbel
    clear hbel hs gw hown HU
    go_wp2
    clear hw p0
    go_loopw [3,7] (Gath (x.pubs.map (·.set)) (zkQ x) W.heap.size W) (fun _ i _=>x.pubs.length-(intOf i).toNat)
    case atStart=>exact ⟨0,E _,rfl,J _ _ _ _,fun _ _ h=>absurd h (F _),hbel1⟩
    case round =>
     clear hbel1
     obtain ⟨k,hk,rfl,hown,hu,hbel⟩:=hrel
     have hk':k≤x.pubs.length:=by have:=HN2.out;omega
     clear hk
     have HU:=Hd hu
     have hw:=Below.then hb hbel
     have hs:=hbel.size
     have p0:=(hbel.cell (p:=⟨w.heap.size,51,s⟩) g0).trans q51
     have gw:w.heap.size<wr.heap.size:=by omega
     clear hu
     by_cases hlt:k<x.pubs.length
     · obtain ⟨b,o,ds,y,rfl,hbB,hy,-,⟨rfl,hy1⟩,hat⟩:=(HR2.out.mono PubNC.mono (D _) (hw.mono hB)).at_ hlt
       obtain ⟨Av,cv,rfl,hcv,hmv⟩:=zac hown
       have HO:=Hd hown
       have d0:wr.cell? ⟨b,o+k*3,s⟩=some (g y.set):=by simpa using hat 0 _ rfl
       have d1:wr.cell? ⟨b,o+k*3+1,s⟩=some (u C y.first):=hat 1 _ rfl
       have d2:wr.cell? ⟨b,o+k*3+2,s⟩=some (u C y.max):=hat 2 _ rfl
       have hb':b<wr.heap.size:=by omega
       have HY:=Hd hy
       have hk0:(0:Int)≤(k:Int):=by omega
       have hk1:(k:Int)<(x.pubs.length:Int):=by omega
       clear hy hat hown
       have hbx:=zaa wr (q #[g y.set,u C y.first,u C y.max] 158)
       have g2:wr.heap.size<(wr.alloc (q #[g y.set,u C y.first,u C y.max] 158)).heap.size:=by simp
       have hown2:=zab HO.out hbx (D _)
       have HO2:=Hd hown2
       clear hown2
       go_wp2_with fail
       refine (zbf y.set _ hy1).mono ?_
       rintro e w1 ⟨b1,t1,rfl,rfl⟩
       cases b1
       · go_wp2
         go_ret
         exact ErrSays.no (Below.then hw hbx) (by decide)
       have HA:=Hd (t1 rfl)
       clear t1
       go_wp2_with fail
       refine (zcw (xs:=x.pubs.map (·.set)) HO2.out (by have:=HN2.out;omega) (by have:=HN2.out;omega) HS2.out).mono ?_
       rintro e w3 ⟨m,t3,rfl,rfl⟩
       by_cases h0:0≤m
       · go_wp2
         go_ret
         exact ErrSays.no (Below.then hw hbx) (by decide)
       have HT3:=Hd (t3 (by omega))
       clear t3
       cases u1:inB y.first 1 100
       case false =>
        go_wp2_with (first | (go_at_call 85;refine (zaJ _ _ _ _).mono ?_;rintro e w' ⟨rfl,rfl⟩))
        go_ret
        exact ErrSays.no (Below.then hw hbx) (by decide)
       cases u2:inB y.max y.first 1000
       case false =>
        go_wp2_with (first | (go_at_call 85;refine (zaJ _ _ _ _).mono ?_;rintro e w' ⟨rfl,rfl⟩))
        go_ret
        exact ErrSays.no (Below.then hw hbx) (by decide)
       have HRF:Hid (PubF x.pubs k y):=Hd ⟨HA.out,HT3.out,zaF.1 u1,zaF.1 u2⟩
       have hbel2:=hbel.trans (hbx.mono hs)
       go_wp2_with (first
        | (at_builtin;refine zaK _ _ 22 rfl rfl Tryz.underlying22 hi hz0 hz1 hz2 rfl (by decide) rfl HO2.out hbel2 (wr.heap.size+1) (by simp) rfl rfl (by simp [Value.oneCell']) (by omega) (by unfold maxLen;omega) (G hs (H g2)) ?_;intro v' w' hown' hbel' _)
        | (go_at_call 85;refine (zaJ _ _ _ _).mono ?_;rintro e w' ⟨rfl,rfl⟩))
       go_roundw
       case rel=>exact ⟨k+1,by have:=HN2.out;omega,by go_num,by rw [zc6 (zey (·.set) HY.out)];exact hown',zbB HU.out HY.out HRF.out,hbel'⟩
       case measure=>simp [intOf];omega
     · obtain rfl:k=x.pubs.length:=by omega
       have HF2:=Hd HU.out
       have hbel2:=hbel
       clear hbel hs gw hown HU
       go_wp2
       clear hw p0
       go_loopw [3,9] (Gath (x.r.subs.map (·.loc)) (zkV x) W.heap.size W) (fun _ i _=>x.r.subs.length-(intOf i).toNat)
       case atStart=>exact ⟨0,E _,rfl,J _ _ _ _,fun _ _ h=>absurd h (F _),hbel2⟩
       case round =>
        clear hbel2
        obtain ⟨k,hk,rfl,hown,hu,hbel⟩:=hrel
        have hk':k≤x.r.subs.length:=by have:=HN3.out;omega
        clear hk
        have HU:=Hd hu
        have hw:=Below.then hb hbel
        have hs:=hbel.size
        have p0:=(hbel.cell (p:=⟨w.heap.size,52,s⟩) g0).trans q52
        have gw:w.heap.size<wr.heap.size:=by omega
        clear hu
        by_cases hlt:k<x.r.subs.length
        · obtain ⟨b,o,ds,y,rfl,hbB,hy,-,⟨rfl,hy1,hy2,hy3,hy4⟩,hat⟩:=(HR3.out.mono SubC.mono (D _) (hw.mono hB)).at_ hlt
          obtain ⟨Av,cv,rfl,hcv,hmv⟩:=zac hown
          have HO:=Hd hown
          have d0:wr.cell? ⟨b,o+k*4,s⟩=some (g y.loc):=by simpa using hat 0 _ rfl
          have d1:wr.cell? ⟨b,o+k*4+1,s⟩=some (g y.device):=hat 1 _ rfl
          have d2:wr.cell? ⟨b,o+k*4+2,s⟩=some (g y.set):=hat 2 _ rfl
          have d3:wr.cell? ⟨b,o+k*4+3,s⟩=some (g y.signal):=hat 3 _ rfl
          have hb':b<wr.heap.size:=by omega
          have HY:=Hd hy
          have hk0:(0:Int)≤(k:Int):=by omega
          have hk1:(k:Int)<(x.r.subs.length:Int):=by omega
          clear hy hat hown
          have hbx:=zaa wr (q #[g y.loc,g y.device,g y.set,g y.signal] 62)
          have g2:wr.heap.size<(wr.alloc (q #[g y.loc,g y.device,g y.set,g y.signal] 62)).heap.size:=by simp
          have hown2:=zab HO.out hbx (D _)
          have HO2:=Hd hown2
          clear hown2
          go_wp2_with fail
          refine (zbf y.loc _ hy1).mono ?_
          rintro e w1 ⟨b1,t1,rfl,rfl⟩
          cases b1
          · go_wp2
            go_ret
            exact ErrSays.no (Below.then hw hbx) (by decide)
          have HA:=Hd (t1 rfl)
          clear t1
          go_wp2_with fail
          refine (zbf y.device _ hy2).mono ?_
          rintro e w1 ⟨b1,t1,rfl,rfl⟩
          cases b1
          · go_wp2
            go_ret
            exact ErrSays.no (Below.then hw hbx) (by decide)
          have HDv:=Hd (t1 rfl)
          clear t1
          go_wp2_with fail
          refine (zbf y.set _ hy3).mono ?_
          rintro e w1 ⟨b1,t1,rfl,rfl⟩
          cases b1
          · go_wp2
            go_ret
            exact ErrSays.no (Below.then hw hbx) (by decide)
          have HSe:=Hd (t1 rfl)
          clear t1
          go_wp2_with fail
          refine (zbf y.signal _ hy4).mono ?_
          rintro e w1 ⟨b1,t1,rfl,rfl⟩
          cases b1
          · go_wp2
            go_ret
            exact ErrSays.no (Below.then hw hbx) (by decide)
          have HSg:=Hd (t1 rfl)
          clear t1
          go_wp2_with fail
          refine (zcw (xs:=x.r.subs.map (·.loc)) HO2.out (by have:=HN3.out;omega) (by have:=HN3.out;omega) HS3.out).mono ?_
          rintro e w3 ⟨m,t3,rfl,rfl⟩
          by_cases h0:0≤m
          · go_wp2
            go_ret
            exact ErrSays.no (Below.then hw hbx) (by decide)
          have HT3:=Hd (t3 (by omega))
          clear t3
          have HRF:Hid (SubF x.r.subs k y):=Hd ⟨HA.out,HDv.out,HSe.out,HSg.out,HT3.out⟩
          have hbel2:=hbel.trans (hbx.mono hs)
          go_wp2_with (first
           | (at_builtin;refine zaK _ _ 22 rfl rfl Tryz.underlying22 hi hz0 hz1 hz2 rfl (by decide) rfl HO2.out hbel2 (wr.heap.size+1) (by simp) rfl rfl (by simp [Value.oneCell']) (by omega) (by unfold maxLen;omega) (G hs (H g2)) ?_;intro v' w' hown' hbel' _)
           | (go_at_call 85;refine (zaJ _ _ _ _).mono ?_;rintro e w' ⟨rfl,rfl⟩))
          go_roundw
          case rel=>exact ⟨k+1,by have:=HN3.out;omega,by go_num,by rw [zc6 (zey (·.loc) HY.out)];exact hown',zbB HU.out HY.out HRF.out,hbel'⟩
          case measure=>simp [intOf];omega
        · obtain rfl:k=x.r.subs.length:=by omega
          have HF3:=Hd HU.out
          have hbel3:=hbel
          clear hbel hs gw hown HU
          go_wp2
          go_ret
          exact ErrSays.of hw fun _=>⟨fun k y hy=>HF1.out k y (List.getElem?_eq_some_iff.1 hy).1 hy,fun k y hy=>HF2.out k y (List.getElem?_eq_some_iff.1 hy).1 hy,fun k y hy=>HF3.out k y (List.getElem?_eq_some_iff.1 hy).1 hy⟩
end Go.Proofs.YtjkimieapfbhbaaGreatDoor
