/-
 The program's test of the zones that a scheme needs, and of the lengths of a relay's lists.
-/
import Derived.Test.YtjkimieapfbhbaaGreatDoorKPUb
set_option maxRecDepth 100000
set_option maxHeartbeats 8000000
open Go.Obj renaming cells → f
open Go.Value renaming slice → j, bool → m
open Go.Proofs.Tryz renaming prog → l
namespace Go.Proofs.YtjkimieapfbhbaaGreatDoor
open Go.RowKit
theorem zhr (g:Nat) (W:World) (q3:W.cell? ⟨g,3,none⟩=some (m true)) (q4:W.cell? ⟨g,4,none⟩=some (m true)) :
 Calls l 159 #[.int .i64 0,.pointer (some ⟨g,0,none⟩)] W fun e w'=>e = .returned (m true)∧W=w':=by
 go_enter Tryz.func159,Tryz.ntmps159;go_wp2;go_ret
 exact ⟨rfl,rfl⟩
theorem zdo (g:Nat) (W:World) (q3:W.cell? ⟨g,9,none⟩=some (m true)) (q4:W.cell? ⟨g,10,none⟩=some (m true)) :
 Calls l 159 #[.int .i64 1,.pointer (some ⟨g,0,none⟩)] W fun e w'=>e = .returned (m true)∧W=w':=by
 go_enter Tryz.func159,Tryz.ntmps159;go_wp2;go_ret
 exact ⟨rfl,rfl⟩
theorem ze2 (nm:ByteArray) (k:Int) (n:NumM) (c49 c50 c51 c52:Value) (cs:List Value) (hcs:cs=zbd nm k n c49 c50 c51 c52) (h:zek n) (w:World):Calls l 140 #[.agg cs.toArray] w (zaG true w):=by
 have hmf:∀ (fn:Fn) (first cap:Array Value) (w:World),(Instr.makeFunc fn first cap).run l w = .ok (.func fn first cap) w:=fun _ _ _ _=>rfl
 have q3:=rq w hcs 3 rfl;have q4:=rq w hcs 4 rfl;have q5:=rq w hcs 5 rfl;have q6:=rq w hcs 6 rfl;have q7:=rq w hcs 7 rfl;have q8:=rq w hcs 8 rfl;have q9:=rq w hcs 9 rfl;have q10:=rq w hcs 10 rfl;have q11:=rq w hcs 11 rfl;have q12:=rq w hcs 12 rfl;have q13:=rq w hcs 13 rfl;have q14:=rq w hcs 14 rfl;have q15:=rq w hcs 15 rfl;have q16:=rq w hcs 16 rfl;have q17:=rq w hcs 17 rfl;have q18:=rq w hcs 18 rfl;have q19:=rq w hcs 19 rfl;have q20:=rq w hcs 20 rfl;have q24:=rq w hcs 24 rfl;have hb:=zaa w (f cs.toArray 60);have hg:w.heap.size<(w.alloc (f cs.toArray 60)).heap.size:=by simp
 clear hcs
 have hh:((n.scheme == 1)=true∧n.z0.on=true∧n.z0.fw=true∧n.z1.on=true∧n.z1.fw=true)∨((n.scheme == 1)=false∧(n.scheme == 2)=true∧n.z1.on=true∧n.z1.fw=true) ∨
  ((n.scheme == 1)=false∧(n.scheme == 2)=false∧(n.scheme == 3)=true∧n.z1.on=true∧n.z1.fw=true∧n.z2.on=true∧n.z2.fw=false)∨((n.scheme == 1)=false∧(n.scheme == 2)=false∧(n.scheme == 3)=false):=by
  simp only [beq_iff_eq,beq_eq_false_iff_ne]
  rcases h with ⟨a,h⟩ | ⟨a,h⟩ | ⟨a,h⟩ | h
  · exact .inl ⟨a,h⟩
  · exact .inr (.inl ⟨by omega,a,h⟩)
  · exact .inr (.inr (.inl ⟨by omega,by omega,a,h⟩))
  · exact .inr (.inr (.inr h))
 clear h
 rcases hh with ⟨a1,b1,b2,b3,b4⟩ | ⟨a1,a2,b3,b4⟩ | ⟨a1,a2,a3,b3,b4,b5,b6⟩ | ⟨a1,a2,a3⟩
 · rw [b1] at q3;rw [b2] at q4;rw [b3] at q9;rw [b4] at q10
   have C0:=Hd (zhr w.heap.size _ q3 q4)
   have C1:=Hd (zdo w.heap.size _ q9 q10)
   clear b1 b2 b3 b4
   go_enter Tryz.func140,Tryz.ntmps140
   go_upto_region 1 with fail
   generalize w.alloc (f cs.toArray 60)=W0 at *
   go_wp2_with (first | (go_at_call 159;(with_reducible refine C0.out.mono ?_);rintro e w' ⟨rfl,rfl⟩) | (go_at_call 159;(with_reducible refine C1.out.mono ?_);rintro e w' ⟨rfl,rfl⟩))
   go_ret
   exact ⟨rfl,hb⟩
 · rw [b3] at q9;rw [b4] at q10
   have C1:=Hd (zdo w.heap.size _ q9 q10)
   clear b3 b4
   go_enter Tryz.func140,Tryz.ntmps140
   go_upto_region 1 with fail
   generalize w.alloc (f cs.toArray 60)=W0 at *
   go_wp2_with (first | (go_at_call 159;(with_reducible refine C1.out.mono ?_);rintro e w' ⟨rfl,rfl⟩))
   go_ret
   exact ⟨rfl,hb⟩
 · rw [b3] at q9;rw [b4] at q10;rw [b5] at q15;rw [b6] at q16
   have C1:=Hd (zdo w.heap.size _ q9 q10)
   clear b3 b4 b5 b6
   go_enter Tryz.func140,Tryz.ntmps140
   go_upto_region 1 with fail
   generalize w.alloc (f cs.toArray 60)=W0 at *
   go_wp2_with (first | (go_at_call 159;(with_reducible refine C1.out.mono ?_);rintro e w' ⟨rfl,rfl⟩))
   go_ret
   exact ⟨rfl,hb⟩
 · go_enter Tryz.func140,Tryz.ntmps140
   go_upto_region 1 with fail
   generalize w.alloc (f cs.toArray 60)=W0 at *
   go_wp2
   go_ret
   exact ⟨rfl,hb⟩
theorem zlB (nm:ByteArray) (A:Option Addr) (n c:Nat) (h1:1≤n) (h2:n≤24) (w:World):Calls l 160 #[.agg #[.string nm,j A n c]] w (zaG false w):=by
 go_enter Tryz.func160,Tryz.ntmps160;go_wp2_with (go_at_call 157;refine (za9 _ _ _ (by omega) _).mono ?_;rintro e w' ⟨rfl,rfl⟩)
 go_ret
 exact ⟨rfl,zaa _ _⟩
theorem zht (A:Option Addr) (c B:Nat) (xs:List (ByteArray × List ByteArray)) (w:World) (hB:B≤w.heap.size) (hr:Rws SetC 2 w B A xs.length xs) (hn:xs.length≤1000) (hs:∀ (k:Nat) (d:ByteArray × List ByteArray),xs[k]? = some d→1≤d.2.length∧d.2.length≤24) :
 Calls l 72 #[j A xs.length c,.func (.func 160) #[] #[]] w (zaU (-1) w):=by
 have HS:=Hd hs;clear hs;go_enter Tryz.func72,Tryz.ntmps72;go_wp2
 go_loopw [8] (zco w.heap.size w xs.length (fun _=>True)) (fun i _=>xs.length-(intOf i).toNat)
 case atStart=>exact ⟨0,Nat.zero_le _,rfl,trivial,Below.refl _ _⟩
 case round =>
  obtain ⟨k,hk,rfl,-,hbel⟩:=hrel
  by_cases hlt:k<xs.length
  · obtain ⟨b,o,cs,x,rfl,hbB,hx,hl,⟨a1,rfl,-,hsl⟩,hat⟩:=hr.at_ hlt
    obtain ⟨A2,k2,e2,-,-,-⟩:=hsl
    cases e2
    have hc0:wr.cell? ⟨b,o+k*2,none⟩=some (.string x.1):=(hbel.cell (by show b<w.heap.size;omega)).trans (hat 0 _ rfl)
    have hc1:wr.cell? ⟨b,o+k*2+1,none⟩=some (j A2 x.2.length k2):=(hbel.cell (by show b<w.heap.size;omega)).trans (hat 1 _ rfl)
    obtain ⟨h1,h2⟩:=HS.out k x hx
    have HC:=Hd (zlB x.1 A2 x.2.length k2 h1 h2 wr)
    clear hx hat hr hl
    go_wp2_with (go_at_call 160;refine HC.out.mono ?_;rintro e w2 ⟨rfl,hb2⟩)
    go_roundw
    case rel=>exact ⟨k+1,by omega,by go_num,trivial,hbel.trans (hb2.mono hbel.size)⟩
    case measure=>simp [intOf];omega
  · go_wp2
    go_ret
    exact ⟨rfl,hbel⟩
theorem zd3 (A:Option Addr) (c B:Nat) (xs:List (ByteArray × List ByteArray)) (w:World) (hB:B≤w.heap.size) (hr:Rws SetC 2 w B A xs.length xs) (hn:xs.length≤1000) (hs:∀ (k:Nat) (d:ByteArray × List ByteArray),xs[k]? = some d→1≤d.2.length∧d.2.length≤24) :
 Calls l 161 #[j A xs.length c,.func (.func 160) #[] #[]] w (zaG false w):=by
 have HC:=Hd (zht A c B xs w hB hr hn hs);clear hr hs;go_enter Tryz.func161,Tryz.ntmps161;go_wp2_with (go_at_call 72;refine HC.out.mono ?_;rintro e w2 ⟨rfl,hb2⟩)
 go_ret
 exact ⟨rfl,hb2⟩
theorem zjD (cs:List Value) (x:RelayX) (B:Nat) (w:World) (hB:B≤w.heap.size) (h:RelayXC w B cs x) (hc:CountF x.r):Calls l 141 #[.agg cs.toArray] w (zaG true w):=by
 obtain ⟨c49,h49,A1,k1,e1,l1,m1,R1⟩:=h.base.rules;obtain ⟨c50,h50,A2,k2,e2,l2,m2,R2⟩:=h.base.sets;obtain ⟨c51,h51,A3,k3,e3,l3,m3,R3⟩:=h.base.pubs;obtain ⟨c52,h52,A4,k4,e4,l4,m4,R4⟩:=h.base.subs
 cases e1;cases e2;cases e3;cases e4
 obtain ⟨u1,u2,u3,u4,u5⟩:=hc;have q49:(w.alloc (f cs.toArray 60)).cell? ⟨w.heap.size,49,none⟩=some (j A1 x.r.rules.length k1):=zaI h49;have q50:(w.alloc (f cs.toArray 60)).cell? ⟨w.heap.size,50,none⟩=some (j A2 x.r.sets.length k2):=zaI h50;have q51:(w.alloc (f cs.toArray 60)).cell? ⟨w.heap.size,51,none⟩=some (j A3 x.r.pubs.length k3):=zaI h51;have q52:(w.alloc (f cs.toArray 60)).cell? ⟨w.heap.size,52,none⟩=some (j A4 x.r.subs.length k4):=zaI h52;have hb:=zaa w (f cs.toArray 60);have hg:w.heap.size<(w.alloc (f cs.toArray 60)).heap.size:=by simp
 have HC:=Hd (zd3 A2 k2 B x.r.sets (w.alloc (f cs.toArray 60)) (by have:=hb.size;omega) (R2.mono SetC.mono (Nat.le_refl _) (hb.mono hB)) (by omega) u5);clear h h49 h50 h51 h52 R1 R2 R3 R4 u5;go_enter Tryz.func141,Tryz.ntmps141;go_upto_region 1 with fail
 generalize w.alloc (f cs.toArray 60)=W0 at *;go_wp2_with (first | (go_at_call 161;refine HC.out.mono ?_;rintro e w2 ⟨rfl,hb2⟩))
 go_ret
 exact ⟨rfl,Below.then hb hb2⟩
end Go.Proofs.YtjkimieapfbhbaaGreatDoor
