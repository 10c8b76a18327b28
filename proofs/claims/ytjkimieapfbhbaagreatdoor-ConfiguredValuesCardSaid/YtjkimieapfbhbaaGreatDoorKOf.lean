/-
 A subscriber's value is read; a truth; a bit of a step.
-/
import Derived.Test.YtjkimieapfbhbaaGreatDoorWd
import Derived.Test.YtjkimieapfbhbaaGreatDoorKOb
import Derived.Test.YtjkimieapfbhbaaGreatDoorVh
import Derived.Test.YtjkimieapfbhbaaGreatDoorVi
import Derived.Test.YtjkimieapfbhbaaGreatDoorVj
import Derived.Test.YtjkimieapfbhbaaGreatDoorKVg
set_option maxRecDepth 100000
set_option maxHeartbeats 8000000
open Go.Value renaming int → j, slice → m, string → n, agg → C, bool → D
open Go.IntKind renaming i64 → l
open Option renaming none → t
open Go.Obj renaming cells → u
open Go.Proofs.Tryz renaming prog → y
namespace Go.Proofs.YtjkimieapfbhbaaGreatDoor
open Go.RowKit
theorem zlA (p:SbM) (A:Option Addr) (c:Nat) (w:World) (hk:p.known=true) (hl:1≤p.left) (ht:p.test=false) :
 Calls y 25 #[.agg (p.cells A c).toArray] w (zaG true w):=by
 have R0:Row (w.alloc (u (p.cells A c).toArray 78)) w.heap.size 78 (p.cells A c):=Row.new _ _ rfl;obtain ⟨q0,q1,q2,q3,q4,q5,q6,q7,q8⟩:=kr9 R0;rw [hk] at q2;rw [ht] at q7;have dl:decide (0<p.left)=true:=by rw [decide_eq_true_eq];omega
 clear hk ht R0;go_enter Tryz.func25,Tryz.ntmps25;go_upto_region 1 with fail
 have hb:=zaa w (u (p.cells A c).toArray 78);have HB:=Hd hb;clear hb;generalize (w.alloc (u (p.cells A c).toArray 78))=W0 at *;go_wp2;go_ret
 exact ⟨rfl,HB.out⟩
def zl1 (b:Bool) (w:World) (e:Ending) (w':World):Prop:=e = .returned (.tuple #[.agg (valC b).toArray,D true])∧Below w.heap.size w w'
theorem zmq (p:SbM) (A:Option Addr) (c B k:Nat) (b:Bool) (w:World) (hB:B≤w.heap.size) (h1:Rws ValR 6 w B A p.vals.length p.vals) (hkn:p.known=true) (hl:1≤p.left) (ht:p.test=false) (hb:p.vals[k]? = some b) :
 Calls y 11 #[.agg (p.cells A c).toArray,j l (k:Int)] w (zl1 b w):=by
 have hkl:k<p.vals.length:=(List.getElem?_eq_some_iff.1 hb).1;obtain ⟨bb,o,cs,x,hA,hbB,hx,-,hR,hat⟩:=h1.at_ hkl;rw [hb] at hx
 cases hx
 have hcs:cs=valC b:=hR;subst hcs;subst hA;have R0:Row ((w.alloc (u (p.cells (some ⟨bb,o,t⟩) c).toArray 78)).alloc (u #[j l 0,j l 0,n ⟨#[]⟩,j l 0,j l 0,j l 0] 73)) w.heap.size 78 (p.cells (some ⟨bb,o,t⟩) c):=(Row.new _ _ rfl).below (zaa _ _) (by simp);have R1:Row ((w.alloc (u (p.cells (some ⟨bb,o,t⟩) c).toArray 78)).alloc (u #[j l 0,j l 0,n ⟨#[]⟩,j l 0,j l 0,j l 0] 73)) (w.heap.size+1) 73 [j l 0,j l 0,n ⟨#[]⟩,j l 0,j l 0,j l 0]:=Row.new _ [j l 0,j l 0,n ⟨#[]⟩,j l 0,j l 0,j l 0] (by simp);have hbw:bb<w.heap.size:=by omega
 have hbel:Below w.heap.size w ((w.alloc (u (p.cells (some ⟨bb,o,t⟩) c).toArray 78)).alloc (u #[j l 0,j l 0,n ⟨#[]⟩,j l 0,j l 0,j l 0] 73)):=(zaa _ _).alloc (by simp) _;obtain ⟨q0,q1,q2,q3,q4,q5,q6,q7,q8⟩:=kr9 R0;obtain ⟨u_0,u_1,u_2,u_3,u_4,u_5⟩:=kr6 R1;obtain ⟨u_f0,u_f1,u_f2,u_f3,u_f4,u_f5⟩:=kq6 R1;have g0:=(hbel.cell (p:=⟨bb,o+k*6,t⟩) hbw).trans (hat 0 (j l 1) rfl);have g1:=(hbel.cell (p:=⟨bb,o+k*6+1,t⟩) hbw).trans (hat 1 (j l (truN b)) rfl);have g2:=(hbel.cell (p:=⟨bb,o+k*6+2,t⟩) hbw).trans (hat 2 (n ⟨#[]⟩) rfl);have g3:=(hbel.cell (p:=⟨bb,o+k*6+3,t⟩) hbw).trans (hat 3 (j l 0) rfl);have g4:=(hbel.cell (p:=⟨bb,o+k*6+4,t⟩) hbw).trans (hat 4 (j l 0) rfl);have g5:=(hbel.cell (p:=⟨bb,o+k*6+5,t⟩) hbw).trans (hat 5 (j l 0) rfl);have hbW:bb<((w.alloc (u (p.cells (some ⟨bb,o,t⟩) c).toArray 78)).alloc (u #[j l 0,j l 0,n ⟨#[]⟩,j l 0,j l 0,j l 0] 73)).heap.size:=by have:=hbel.size;omega
 have z0:=R0.lt;have z1:=R1.lt;have dk:decide ((k:Int)<0)=false:=by rw [decide_eq_false_iff_not];omega
 have dk2:decide ((p.vals.length:Int)≤(k:Int))=false:=by rw [decide_eq_false_iff_not];omega
 have hk0:(0:Int)≤(k:Int):=by omega
 have hki:(k:Int)<(p.vals.length:Int):=by omega
 have HV:=Hd (show ∀ W',Calls y 25 #[C #[j l p.pub,j l p.rev,D p.known,j l p.state,j l p.seq,j l p.left,j l p.lost,D p.test,m (some ⟨bb,o,t⟩) p.vals.length c]] W' (zaG true W') from fun W'=>zlA p (some ⟨bb,o,t⟩) c W' hkn hl ht);have HB:=Hd hbel;clear h1 hb hR hat hkn ht R0 R1 hbel;go_enter Tryz.func11,Tryz.ntmps11;go_upto_region 1 with fail
 generalize ((w.alloc (u (p.cells (some ⟨bb,o,t⟩) c).toArray 78)).alloc (u #[j l 0,j l 0,n ⟨#[]⟩,j l 0,j l 0,j l 0] 73))=W0 at *;go_wp2_with fail
 refine (HV.out _).mono ?_
 rintro e w1 ⟨rfl,hb1⟩
 obtain ⟨x0,x1,x2,x3,x4,x5⟩:=kb6 hb1 z0 ⟨q0,q1,q2,q3,q4,q5⟩;obtain ⟨x6,x7,x8⟩:=kb3 hb1 z0 ⟨q6,q7,q8⟩;obtain ⟨t0,t1,t2,t3,t4,t5⟩:=kb6 hb1 z1 ⟨u_0,u_1,u_2,u_3,u_4,u_5⟩;obtain ⟨tf0,tf1,tf2,tf3,tf4,tf5⟩:=kf6 hb1 z1 ⟨u_f0,u_f1,u_f2,u_f3,u_f4,u_f5⟩;obtain ⟨v0,v1,v2,v3,v4,v5⟩:=kb6 hb1 hbW ⟨g0,g1,g2,g3,g4,g5⟩;have hs1:=hb1.size;have HB1:=Hd hb1;clear hb1;go_wp2;refine bodyPost_ret (v := .tuple #[C #[j l 1,j l (truN b),n ⟨#[]⟩,j l 0,j l 0,j l 0],D true]) (by simp [results,Tryz.results11,go_sem,t0,t1,t2,t3,t4,t5]) rfl ⟨rfl,?_⟩
 exact zak (g:=w.heap.size+1) (by omega) [(0,j l 1),(1,j l (truN b)),(2,n ⟨#[]⟩),(3,j l 0),(4,j l 0),(5,j l 0)] w1 (Below.then HB.out HB1.out)
theorem zf9 (b:Bool) (w:World):Calls y 12 #[D b] w fun e w'=>e = .returned (C #[j l 1,j l (truN b),n ⟨#[]⟩,j l 0,j l 0,j l 0])∧Below w.heap.size w w':=by
 cases b
 · go_enter Tryz.func12,Tryz.ntmps12
   go_wp2
   refine bodyPost_ret (v := C #[j l 1,j l (truN false),n ⟨#[]⟩,j l 0,j l 0,j l 0]) (by simp [results,Tryz.results12,go_sem,truN]) rfl ⟨rfl,?_⟩
   exact zaa _ _
 · go_enter Tryz.func12,Tryz.ntmps12
   go_wp2
   refine bodyPost_ret (v := C #[j l 1,j l (truN true),n ⟨#[]⟩,j l 0,j l 0,j l 0]) (by simp [results,Tryz.results12,go_sem,truN]) rfl ⟨rfl,?_⟩
   exact zaa _ _
theorem zlw (q:SbM) (A:Option Addr) (c B:Nat) (w:World) (hB:B≤w.heap.size) (h1:Rws ValR 6 w B A q.vals.length q.vals) (hv:q.vals.length≤24) (hl:0≤q.left∧q.left≤100000) :
 Calls y 22 #[.agg (q.cells A c).toArray] w (zh1 q.ticked w):=by
 unfold SbM.ticked
 by_cases h:q.left=0
 · rw [if_pos h]
   exact zhW q A c B w hB h1 hv h
 · rw [if_neg h]
   exact zhV q A c B w hB h1 hv (by omega)
theorem zkb {s:Nat} (p:PbM) (hp:p.Good s) (hs:s≤60) (A A2:Option Addr) (c c2 B:Nat) (vs:List Bool) (w:World) (hB:B≤w.heap.size) (h1:Rws ValR 6 w B A p.vals.length p.vals) (h2:Rws ValR 6 w B A2 vs.length vs) (hv:vs.length≤24) :
 Calls y 23 #[.agg (p.cells A c).toArray,m A2 vs.length c2,C #[j l 0,j l 0,j l 0]] w (fun e w'=>(p.due vs=0∧zh2 (p.next vs) w e w')∨(p.due vs≠0∧zfs (p.next vs) w e w')):=by
 rcases zer p vs with hd | hd | hd
 · have e:p.next vs=p.change vs:=by unfold PbM.next;rw [if_pos hd]
   rw [e]
   cases hst:p.started with
   | true=>exact (zfW p A A2 c c2 B vs w hB (hp.fit hs) h1 h2 hv hst hd).mono fun _ _ h => .inr ⟨by rw [hd];decide,h⟩
   | false=>exact (zg6 p A A2 c c2 B vs w hB (hp.fit hs) h1 h2 hv hst hd).mono fun _ _ h => .inr ⟨by rw [hd];decide,h⟩
 · have e:p.next vs=p.repeats:=by unfold PbM.next;rw [if_neg (by rw [hd];decide),if_pos hd]
   rw [e]
   have hst:=(zes (p:=p) (vs:=vs) (by rw [hd];decide)).1
   have h1s:1≤p.state:=by
    rcases hp.run with ⟨a,-⟩ | ⟨-,b,-⟩
    · rw [a] at hst;cases hst
    · exact b.1
   exact (zfX p A A2 c c2 B vs w hB (hp.fit hs) h1 h2 hv h1s hd).mono fun _ _ h => .inr ⟨by rw [hd];decide,h⟩
 · have e:p.next vs=p.waits:=by unfold PbM.next;rw [if_neg (by rw [hd];decide),if_neg (by rw [hd];decide)]
   rw [e]
   exact (zg7 p A A2 c c2 B vs w hB (hp.fit hs) h1 h2 hv hd).mono fun _ _ h => .inl ⟨hd,h⟩
theorem zid {s:Nat} {p:PbM} (h:p.Good s) (hst:p.started=true) (hs:s≤900):MsgF p.pub (3*p.gap+1) p.state p.seq p.rev:=by
 rcases h.run with ⟨a,-⟩ | ⟨-,b,c,d,f⟩
 · rw [a] at hst;cases hst
 · have:=h.max
   exact ⟨h.pub,by omega,by omega,by omega,h.rev⟩
theorem zjf (q:SbM) {s:Nat} {p:PbM} (h:p.Good s) (hst:p.started=true) (hs:s≤900) (A Am:Option Addr) (c cm B:Nat) (w:World) (hB:B≤w.heap.size) (h1:Rws ValR 6 w B A q.vals.length q.vals) (hv:q.vals.length≤24) (h2:Rws ValR 6 w B Am p.vals.length p.vals) (hq:q.pub≠p.pub) :
 Calls y 24 #[.agg (q.cells A c).toArray,.agg (msgC p.pub (3*p.gap+1) p.state p.seq p.rev Am p.vals.length cm).toArray] w (fun e w'=>∃ r,zdK q r w e w'):=
 (ze3 q A Am c cm B _ p.pub p.rev p.state p.seq p.vals w hB (zid h hst hs) h1 hv h2 h.vals (fun z=>hq z.symm)).mono fun _ _ h=>⟨0,h⟩
theorem zkz {s:Nat} {p:PbM} (h:p.Good s) (hs:s≤60) {vs:List Bool} (hvs:vs.length≤24) (hd:p.due vs≠0) (A Am:Option Addr) (c cm B:Nat) (w:World) (hB:B≤w.heap.size) (h1:Rws ValR 6 w B A (zaB p).ticked.vals.length (zaB p).ticked.vals) (h2:Rws ValR 6 w B Am (p.next vs).vals.length (p.next vs).vals) :
 Calls y 24 #[.agg ((zaB p).ticked.cells A c).toArray,.agg (msgC (p.next vs).pub (3*(p.next vs).gap+1) (p.next vs).state (p.next vs).seq (p.next vs).rev Am (p.next vs).vals.length cm).toArray] w (fun e w'=>∃ r,zdK (zaB (p.next vs)) r w e w'):=by
 obtain ⟨hg,hst',hvv⟩:=h.next hvs;have hM:=zid hg hst' (by omega);obtain ⟨f1,-,-,f4⟩:=p.next_fix vs;rw [f1,f4] at hM;have hvl:=h.vals
 rcases zer p vs with e1 | e2 | e0
 · have e:p.next vs=p.change vs:=by unfold PbM.next;rw [if_pos e1]
   rw [e] at hM h2 hst' ⊢
   cases hst:p.started with
   | false =>
     have hs1:zaB p=SbM.new p.pub p.rev:=by unfold zaB;rw [if_neg (by simp [hst])]
     have ht:(SbM.new p.pub p.rev).ticked=SbM.new p.pub p.rev:=by unfold SbM.ticked;exact if_pos rfl
     rw [hs1,ht] at h1 ⊢
     have hn:zaB (p.change vs)=(SbM.new p.pub p.rev).takes (p.change vs).state (p.change vs).seq (3*(p.change vs).gap+1) vs:=by
      unfold zaB
      rw [if_pos hst']
      show SbM.mk _ _ _ _ _ _ _ _ _=SbM.mk _ _ _ _ _ _ _ _ _
      congr 1
      show 3*p.first+1-0=3*p.first+1
      omega
     rw [hn]
     exact (zhc (SbM.new p.pub p.rev) A Am c cm B _ _ _ vs w hB hM h1 h2 hvs rfl rfl).mono fun _ _ h=>⟨1,h⟩
   | true =>
     rcases h.run with ⟨a,-⟩ | ⟨-,b,c',d,f⟩
     · rw [a] at hst;cases hst
     · have hq:(zaB p).ticked=⟨p.pub,p.rev,true,p.state,p.seq,3*p.gap+1-p.since-1,0,false,p.vals⟩:=by
        unfold zaB
        rw [if_pos hst]
        unfold SbM.ticked
        rw [if_neg (by show ¬ (3*p.gap+1-p.since=0);omega)]
       rw [hq] at h1 ⊢
       have hn:zaB (p.change vs)=(SbM.mk p.pub p.rev true p.state p.seq (3*p.gap+1-p.since-1) 0 false p.vals).takes (p.state+1) 0 (3*p.first+1) vs:=by
        unfold zaB
        rw [if_pos hst']
        show SbM.mk _ _ _ _ _ _ _ _ _=SbM.mk _ _ _ _ _ _ _ _ _
        congr 1
        · show (if p.started then p.state+1 else 1)=p.state+1
          rw [hst];rfl
        · show 3*p.first+1-0=3*p.first+1
          omega
       rw [hn]
       have hsx:(p.change vs).state=p.state+1:=by show (if p.started then p.state+1 else 1)=p.state+1;rw [hst];rfl
       rw [hsx] at hM ⊢
       exact (zf5 (SbM.mk p.pub p.rev true p.state p.seq (3*p.gap+1-p.since-1) 0 false p.vals) A Am c cm B _ vs w hB hM h1 h2 hvs rfl (by show 1≤3*p.gap+1-p.since-1;omega) rfl (by show 0≤p.state∧p.state≤1000;omega)).mono fun _ _ h=>⟨2,h⟩
 · obtain ⟨hst,hve⟩:=zes (p:=p) (vs:=vs) (by rw [e2];decide)
   have e:p.next vs=p.repeats:=by unfold PbM.next;rw [if_neg (by rw [e2];decide),if_pos e2]
   rw [e] at hM h2 hst' ⊢
   rcases h.run with ⟨a,-⟩ | ⟨-,b,c',d,f⟩
   · rw [a] at hst;cases hst
   · have hq:(zaB p).ticked=⟨p.pub,p.rev,true,p.state,p.seq,3*p.gap+1-p.since-1,0,false,p.vals⟩:=by
      unfold zaB
      rw [if_pos hst]
      unfold SbM.ticked
      rw [if_neg (by show ¬ (3*p.gap+1-p.since=0);omega)]
     rw [hq] at h1 ⊢
     have hn:zaB p.repeats=(SbM.mk p.pub p.rev true p.state p.seq (3*p.gap+1-p.since-1) 0 false p.vals).takes p.state (p.seq+1) (3*p.repeats.gap+1) p.vals:=by
      unfold zaB
      rw [if_pos hst']
      show SbM.mk _ _ _ _ _ _ _ _ _=SbM.mk _ _ _ _ _ _ _ _ _
      congr 1
      show 3*p.repeats.gap+1-0=3*p.repeats.gap+1
      omega
     rw [hn]
     exact (zf6 (SbM.mk p.pub p.rev true p.state p.seq (3*p.gap+1-p.since-1) 0 false p.vals) A Am c cm B _ w hB hM h1 h.vals h2 rfl (by show 1≤3*p.gap+1-p.since-1;omega) rfl rfl (by show 0≤p.seq∧p.seq≤1000;omega)).mono fun _ _ h=>⟨3,h⟩
 · exact absurd e0 hd
def bitP (st:Int) (r k:Nat):Bool:=bits BinOp.and IntKind.u64 (st / 2 ^ ((7*r+k) % 64)) 1 == 1
theorem zlG (st:Int) (_hst:0≤st∧st≤18446744073709551615) (r k:Nat) (hr:r≤1000) (hk:k≤1000) (w:World):Calls y 9 #[j .u64 st,j l (r:Int),j l (k:Int)] w (fun e w'=>e = .returned (D (bitP st r k))∧w'=w):=by
 go_enter Tryz.func9,Tryz.ntmps9;go_wp2;go_ret
 exact ⟨rfl,rfl⟩
theorem zk5 (A:Option Addr) (c B:Nat) (xs:List ByteArray) (nm:ByteArray) (w:World) (hB:B≤w.heap.size) (h:Rws StrC 1 w B A xs.length xs) (hn:xs.length≤4000) :
 Calls y 10 #[m A xs.length c,n nm] w (zaU (idx (fun s=>same s nm) xs) w):=by
 go_enter Tryz.func10,Tryz.ntmps10;go_wp2
 go_loopw [5] (zdL (fun s=>same s nm) xs w.heap.size w) (fun i _=>xs.length-(intOf i).toNat)
 case atStart=>exact ⟨0,Nat.zero_le _,rfl,za2 _ _,Below.refl _ _⟩
 case round =>
  obtain ⟨k,hk,rfl,hno,hbel⟩:=hrel
  by_cases hlt:k<xs.length
  · obtain ⟨b,o,s,rfl,hbB,hx,hsz,hc⟩:=h.strAt hlt
    have c0:wr.cell? ⟨b,o+k,t⟩=some (n s):=(hbel.cell (p:=⟨b,o+k,t⟩) (by show b<_;omega)).trans hc
    have hki:(k:Int)<(xs.length:Int):=by omega
    have hk0:(0:Int)≤(k:Int):=by omega
    have HX:=Hd hx
    have HN:=Hd hno
    clear hx hno hc
    by_cases he:same s nm=true
    · have e1:(s.toList == nm.toList)=true:=he
      go_wp2
      go_ret
      exact ⟨by rw [zbk HN.out HX.out he];rfl,hbel⟩
    · have he':same s nm=false:=by simpa using he
      have e1:(s.toList == nm.toList)=false:=he'
      go_wp2
      go_roundw
      case rel=>exact ⟨k+1,by omega,by go_num,zaZ HN.out HX.out he',hbel⟩
      case measure=>simp [intOf];omega
  · obtain rfl:k=xs.length:=by omega
    have HN:=Hd hno
    clear hno
    go_wp2
    go_ret
    exact ⟨by rw [zbL HN.out];rfl,hbel⟩
theorem zlq (B:Nat) (p:StAt) (S:StatM) (A:Option Addr) (cc:Nat) (xs:List RelayX) (nm:ByteArray) (w:World) (hB:B≤w.heap.size) (h:ConfX w B p S A cc xs) (hn:xs.length≤20) :
 Calls y 8 #[C #[n S.name,m p.A1 S.buses.length p.c1,m p.A2 S.lines.length p.c2,m p.A3 S.sources.length p.c3,m p.A4 S.bays.length p.c4,m A xs.length cc],n nm] w (zaU (idx (fun x=>same x.r.name nm) xs) w):=by
 have hb:=zaa w (u #[n S.name,m p.A1 S.buses.length p.c1,m p.A2 S.lines.length p.c2,m p.A3 S.sources.length p.c3,m p.A4 S.bays.length p.c4,m A xs.length cc] 30);have R0:Row (w.alloc (u #[n S.name,m p.A1 S.buses.length p.c1,m p.A2 S.lines.length p.c2,m p.A3 S.sources.length p.c3,m p.A4 S.bays.length p.c4,m A xs.length cc] 30)) w.heap.size 30 [n S.name,m p.A1 S.buses.length p.c1,m p.A2 S.lines.length p.c2,m p.A3 S.sources.length p.c3,m p.A4 S.bays.length p.c4,m A xs.length cc]:=Row.new w.heap.size [n S.name,m p.A1 S.buses.length p.c1,m p.A2 S.lines.length p.c2,m p.A3 S.sources.length p.c3,m p.A4 S.bays.length p.c4,m A xs.length cc] rfl;have q5:=Row.cell (k:=5) (v := m A xs.length cc) R0 rfl;have l0:=R0.lt;clear R0;go_enter Tryz.func8,Tryz.ntmps8;go_wp2;generalize w.alloc (u #[n S.name,m p.A1 S.buses.length p.c1,m p.A2 S.lines.length p.c2,m p.A3 S.sources.length p.c3,m p.A4 S.bays.length p.c4,m A xs.length cc] 30)=W0 at *
 go_loopw [5] (zdL (fun x:RelayX=>same x.r.name nm) xs W0.heap.size W0) (fun i _=>xs.length-(intOf i).toNat)
 case atStart=>exact ⟨0,Nat.zero_le _,rfl,za2 _ _,Below.refl _ _⟩
 case round =>
  obtain ⟨k,hk,rfl,hno,hbel⟩:=hrel;have c5:=(hbel.cell (p:=⟨w.heap.size,5,t⟩) l0).trans q5
  by_cases hlt:k<xs.length
  · obtain ⟨b,o,cs,x,rfl,hbB,hx,hlen,hR,hat⟩:=h.rows.at_ hlt
    have hbw:b<w.heap.size:=by omega
    have c0:wr.cell? ⟨b,o+k*53,t⟩=some (n x.r.name):=(hbel.cell (p:=⟨b,o+k*53,t⟩) (by show b<_;omega)).trans ((hb.cell (p:=⟨b,o+k*53,t⟩) hbw).trans (by simpa using hat 0 _ hR.base.name))
    have hki:(k:Int)<(xs.length:Int):=by omega
    have hk0:(0:Int)≤(k:Int):=by omega
    have HX:=Hd hx
    have HN:=Hd hno
    clear hx hno hat hR hlen
    by_cases he:same x.r.name nm=true
    · have e1:(x.r.name.toList == nm.toList)=true:=he
      go_wp2
      go_ret
      exact ⟨by rw [zbk HN.out HX.out he];rfl,Below.then hb hbel⟩
    · have he':same x.r.name nm=false:=by simpa using he
      have e1:(x.r.name.toList == nm.toList)=false:=he'
      go_wp2
      go_roundw
      case rel=>exact ⟨k+1,by omega,by go_num,zaZ HN.out HX.out he',hbel⟩
      case measure=>simp [intOf];omega
  · obtain rfl:k=xs.length:=by omega
    have HN:=Hd hno
    clear hno
    go_wp2
    go_ret
    exact ⟨by rw [zbL HN.out];rfl,Below.then hb hbel⟩
end Go.Proofs.YtjkimieapfbhbaaGreatDoor
