/-
 The communication of a station in plain data: publishers and subscribers step by step. No walk.
-/
import Derived.Test.YtjkimieapfbhbaaGreatDoorWd
import Derived.Test.YtjkimieapfbhbaaGreatDoorKRSc
import Derived.Test.YtjkimieapfbhbaaGreatDoorKVd
import Derived.Test.YtjkimieapfbhbaaGreatDoorKFind
open Go.Value renaming slice → m, int → z, string → D, bool → G
open Option renaming none → y
open Go.IntKind renaming i64 → C
open Go.Obj renaming cells → E
open Go.Proofs.Tryz renaming prog → H
open Go.Ending renaming returned → I
open Nat renaming zero_le → J, le_refl → K
open Go.World renaming size_alloc → L
namespace Go.Proofs.YtjkimieapfbhbaaGreatDoor
open Go.RowKit
def PbM.next (p:PbM) (vs:List Bool):PbM:=if p.due vs=1 then p.change vs else if p.due vs=2 then p.repeats else p.waits
def SbM.ticked (q:SbM):SbM:=if q.left=0 then q else { q with left:=q.left-1 }
def zaB (p:PbM):SbM:=if p.started then ⟨p.pub,p.rev,true,p.state,p.seq,3*p.gap+1-p.since,0,false,p.vals⟩ else SbM.new p.pub p.rev
structure PbM.Good (s:Nat) (p:PbM):Prop where
 pub:0≤p.pub∧p.pub≤999
 first:1≤p.first∧p.first≤100
 max:p.first≤p.max∧p.max≤1000
 rev:0≤p.rev∧p.rev≤4294967295
 vals:p.vals.length≤24
 run:(p.started=false∧p.state=0∧p.seq=0∧p.since=0∧p.gap=0)∨(p.started=true∧(1≤p.state∧p.state≤s)∧(0≤p.seq∧p.seq≤s)∧(0≤p.since∧p.since<p.gap)∧(p.first≤p.gap∧p.gap≤p.max))
theorem PbM.Good.new {pub first max rev:Int} (h1:0≤pub∧pub≤999) (h2:1≤first∧first≤100) (h3:first≤max∧max≤1000) (h4:0≤rev∧rev≤4294967295):(PbM.new pub first max rev).Good 0:=
 ⟨h1,h2,h3,h4,by simp [PbM.new],.inl ⟨rfl,rfl,rfl,rfl,rfl⟩⟩
theorem PbM.Good.fit {s:Nat} {p:PbM} (h:p.Good s) (hs:s≤60):p.Fit:=by
 obtain ⟨h1,h2,h3,h4,h5,h6⟩:=h;refine ⟨h1,h2,h3,h4,?_,?_,?_,?_,h5⟩ <;> rcases h6 with ⟨-,a,b,c,d⟩ | ⟨-,a,b,c,d⟩ <;> omega
theorem zer (p:PbM) (vs:List Bool):p.due vs=1∨p.due vs=2∨p.due vs=0:=by
 unfold PbM.due
 split
 · exact .inl rfl
 · split
   · exact .inr (.inl rfl)
   · exact .inr (.inr rfl)
theorem zes {p:PbM} {vs:List Bool} (h:p.due vs≠1):p.started=true∧vs=p.vals:=by
 unfold PbM.due at h
 split at h
 · exact absurd rfl h
 · rename_i q
   rw [not_or] at q
   exact ⟨by simpa using q.1,by simpa using q.2⟩
theorem due_two {p:PbM} {vs:List Bool} (h:p.due vs=2):p.since+1=p.gap:=by
 unfold PbM.due at h
 split at h
 · cases h
 · split at h
   · assumption
   · cases h
theorem zk2 {p:PbM} {vs:List Bool} (h:p.due vs=0):p.since+1≠p.gap:=by
 unfold PbM.due at h
 split at h
 · cases h
 · split at h
   · cases h
   · assumption
theorem PbM.next_fix (p:PbM) (vs:List Bool):(p.next vs).pub=p.pub∧(p.next vs).first=p.first∧(p.next vs).max=p.max∧(p.next vs).rev=p.rev:=by
 unfold PbM.next
 split
 · exact ⟨rfl,rfl,rfl,rfl⟩
 · split <;> exact ⟨rfl,rfl,rfl,rfl⟩
theorem PbM.Good.next {s:Nat} {p:PbM} (h:p.Good s) {vs:List Bool} (hv:vs.length≤24):(p.next vs).Good (s+1)∧(p.next vs).started=true∧(p.next vs).vals=vs:=by
 obtain ⟨h1,h2,h3,h4,h5,h6⟩:=h
 rcases zer p vs with hd | hd | hd
 · have e:p.next vs=p.change vs:=by unfold PbM.next;rw [if_pos hd]
   rw [e]
   refine ⟨⟨h1,h2,h3,h4,hv,.inr ⟨rfl,?_,?_,?_,?_⟩⟩,rfl,rfl⟩
   · show 1≤(if p.started then p.state+1 else 1)∧(if p.started then p.state+1 else 1)≤((s+1:Nat):Int)
     rcases h6 with ⟨a,-⟩ | ⟨a,b,-⟩
     · rw [a,if_neg (by simp)];omega
     · rw [a,if_pos rfl];omega
   · show (0:Int)≤0∧(0:Int)≤((s+1:Nat):Int)
     omega
   · show (0:Int)≤0∧(0:Int)<p.first
     omega
   · show p.first≤p.first∧p.first≤p.max
     omega
 · obtain ⟨hst,hvs⟩:=zes (p:=p) (vs:=vs) (by rw [hd];decide)
   have e:p.next vs=p.repeats:=by unfold PbM.next;rw [if_neg (by rw [hd];decide),if_pos hd]
   rw [e]
   rcases h6 with ⟨a,-⟩ | ⟨-,b,c,d,f⟩
   · rw [a] at hst;cases hst
   · refine ⟨⟨h1,h2,h3,h4,h5,.inr ⟨hst,?_,?_,?_,?_⟩⟩,hst,hvs.symm⟩
     · show 1≤p.state∧p.state≤((s+1:Nat):Int)
       omega
     · show 0≤p.seq+1∧p.seq+1≤((s+1:Nat):Int)
       omega
     · show (0:Int)≤0∧(0:Int)<min (2*p.gap) p.max
       omega
     · show p.first≤min (2*p.gap) p.max∧min (2*p.gap) p.max≤p.max
       omega
 · obtain ⟨hst,hvs⟩:=zes (p:=p) (vs:=vs) (by rw [hd];decide)
   have hn:=zk2 hd
   have e:p.next vs=p.waits:=by unfold PbM.next;rw [if_neg (by rw [hd];decide),if_neg (by rw [hd];decide)]
   rw [e]
   rcases h6 with ⟨a,-⟩ | ⟨-,b,c,d,f⟩
   · rw [a] at hst;cases hst
   · refine ⟨⟨h1,h2,h3,h4,h5,.inr ⟨hst,?_,?_,?_,f⟩⟩,hst,hvs.symm⟩
     · show 1≤p.state∧p.state≤((s+1:Nat):Int)
       omega
     · show 0≤p.seq∧p.seq≤((s+1:Nat):Int)
       omega
     · show 0≤p.since+1∧p.since+1<p.gap
       omega
theorem zfZ {s:Nat} {p:PbM} (h:p.Good s):0≤(zaB p).left∧(zaB p).left≤100000∧(zaB p).vals.length≤24:=by
 obtain ⟨h1,h2,h3,h4,h5,h6⟩:=h;unfold zaB
 rcases h6 with ⟨a,-⟩ | ⟨a,b,c,d,f⟩
 · rw [if_neg (by simp [a])]
   exact ⟨by simp [SbM.new],by simp [SbM.new],by simp [SbM.new]⟩
 · rw [if_pos a]
   refine ⟨?_,?_,h5⟩ <;> show _≤_ <;> simp only <;> omega
theorem zkw (p:PbM):(zaB p).pub=p.pub∧(zaB p).rev=p.rev:=by
 unfold zaB
 split <;> exact ⟨rfl,rfl⟩
theorem zfm (q:SbM):q.ticked.pub=q.pub∧q.ticked.vals=q.vals:=by
 unfold SbM.ticked
 split <;> exact ⟨rfl,rfl⟩
theorem zkx {s:Nat} {p:PbM} (h:p.Good s) {vs:List Bool} (hd:p.due vs=0):(zaB p).ticked=zaB (p.next vs):=by
 obtain ⟨hst,hvs⟩:=zes (p:=p) (vs:=vs) (by rw [hd];decide);have e:p.next vs=p.waits:=by unfold PbM.next;rw [if_neg (by rw [hd];decide),if_neg (by rw [hd];decide)]
 obtain ⟨h1,h2,h3,h4,h5,h6⟩:=h
 rcases h6 with ⟨a,-⟩ | ⟨-,b,c,d,f⟩
 · rw [a] at hst;cases hst
 · rw [e]
   unfold zaB SbM.ticked
   have hw:p.waits.started=true:=hst
   rw [if_pos hst,if_pos hw,if_neg (by show ¬ (3*p.gap+1-p.since=0);omega)]
   show SbM.mk _ _ _ _ _ _ _ _ _=SbM.mk _ _ _ _ _ _ _ _ _
   congr 1
   show 3*p.gap+1-p.since-1=3*p.gap+1-(p.since+1)
   omega
theorem zky {s:Nat} {p:PbM} (h:p.Good (s+1)) (hst:p.started=true):(zaB p).known=true∧1≤(zaB p).left∧(zaB p).test=false∧(zaB p).lost=0∧(zaB p).vals=p.vals:=by
 obtain ⟨h1,h2,h3,h4,h5,h6⟩:=h
 rcases h6 with ⟨a,-⟩ | ⟨-,b,c,d,f⟩
 · rw [a] at hst;cases hst
 · unfold zaB
   rw [if_pos hst]
   exact ⟨rfl,by show 1≤3*p.gap+1-p.since;omega,rfl,rfl,rfl⟩
def Wt (s:ByteArray):Prop:=s.size≤120∧∀ (k:Nat) (c:UInt8),s.data[k]? = some c→c.toNat<128
theorem Wt.ok {s:ByteArray} (h:NameOk s):Wt s:=by
 refine ⟨by have:=h.len;omega,fun k c hc => ?_⟩
 have hk:k<s.size:=(Array.getElem?_eq_some_iff.1 hc).1;have h1:=h.ok k c hk hc;unfold okAt at h1;simp only [Bool.or_eq_true,Bool.and_eq_true,decide_eq_true_eq,beq_iff_eq,bne_iff_ne] at h1;omega
def wtB (s:ByteArray):Bool:=decide (s.size≤120) && s.data.toList.all fun c=>decide (c.toNat<128)
theorem Wt.lit {s:ByteArray} (h:wtB s=true):Wt s:=by
 simp only [wtB,Bool.and_eq_true,decide_eq_true_eq,List.all_eq_true] at h;refine ⟨h.1,fun k c hc => ?_⟩
 have:=h.2 c (by rw [Array.mem_toList_iff];exact Array.mem_of_getElem? hc);simpa using this
def WtC (_:World) (_:Nat→Prop) (cs:List Value) (s:ByteArray):Prop:=cs=[D s]∧Wt s
theorem WtC.mono:zdj WtC:=fun _ _ _ _ _ _ _ _ h=>h
def wdC (x:ByteArray × Bool):List Value:=[D x.1,G x.2]
def WdC (_:World) (_:Nat→Prop) (cs:List Value) (x:ByteArray × Bool):Prop:=cs=wdC x∧Wt x.1
theorem WdC.mono:zdj WdC:=fun _ _ _ _ _ _ _ _ h=>h
def ItC:Nat→World→(Nat→Prop)→List Value→Unit→Prop
 | 0=>fun _ _ _ _=>False
 | d+1=>fun w S cs _=>∃ A c q A' n' c',∃ ws:List (ByteArray × Bool),cs=[z C 0,m A ws.length c,G q,m A' n' c']∧(1≤ws.length∧ws.length≤60)∧(ws.length≤c∧c≤maxLen)∧Rw WdC 2 w S A ws.length ws ∧
  (n'≤c'∧c'≤maxLen∧n'≤1000)∧Rw (ItC d) 4 w S A' n' (List.replicate n' ())
theorem ItC.mono:∀ d,zdj (ItC d)
 | 0=>fun _ _ _ _ _ _ _ _ h=>h
 | d+1=>by
   rintro w w' S S' cs x hS hk ⟨A,c,q,A',n',c',ws,e,h1,h2,h3,h4,h5⟩
   exact ⟨A,c,q,A',n',c',ws,e,h1,h2,h3.mono WdC.mono hS hk,h4,h5.mono (ItC.mono d) hS hk⟩
theorem ItC.len {d:Nat} {w:World} {S:Nat→Prop} {cs:List Value} {x:Unit} (h:ItC d w S cs x):cs.length=4:=by
 cases d with
 | zero=>exact h.elim
 | succ d =>
   obtain ⟨A,c,q,A',n',c',ws,e,-⟩:=h
   rw [e];rfl
theorem zmD {w:World} {base n c:Nat} {A:Option Addr} {ws:List (ByteArray × Bool)} {S:Nat→Prop} (h:w.ownsRow base 217 2 (m A n c) n (ws.flatMap wdC)) (hn:ws.length=n) (hw:∀ x∈ws,Wt x.1) (hS:∀ b,base≤b→b<w.heap.size→S b):Rw WdC 2 w S A n ws:=
 Rw.of_own h hn (fun _ _=>rfl) (fun x hx=>⟨rfl,hw x hx⟩) hS
def zd1 (base lo hi:Nat) (w:World) (e:Ending) (w':World):Prop:=
 ∃ A c,∃ ws:List (ByteArray × Bool),e = I (.agg #[z C 0,m A ws.length c,G false,m y 0 0])∧(lo≤ws.length∧ws.length≤hi)∧(ws.length≤c∧c≤maxLen)∧w'.ownsRow base 217 2 (m A ws.length c) ws.length (ws.flatMap wdC)∧(∀ x∈ws,Wt x.1)∧Below base w w'
structure ItB (w:World) (g base:Nat) (v:Value) (ws:List (ByteArray × Bool)):Prop where
 box:w.heap[g]? = some (.cells #[z C 0,v,G false,m y 0 0] 211 (0,0))
 own:w.ownsRow base 217 2 v ws.length (ws.flatMap wdC)
 ng:v.ownBlock≠some g
 lo:base≤w.heap.size
theorem zfK {w:World} {base g i n size:Nat} {e:TypeId} {v u:Value} {xs:List Value} (h:w.ownsRow base e size v n xs) (hg:v.ownBlock≠some g):(w.setCell ⟨g,i,y⟩ u).ownsRow base e size v n xs:=by
 refine ⟨h.1,?_⟩
 rcases h.2 with h | ⟨b,cap,cur,rfl,h2,h3,h4⟩
 · exact .inl h
 · refine .inr ⟨b,cap,cur,rfl,h2,?_,h4⟩
   rw [heap_setCell_other w ⟨g,i,y⟩ b u (fun q=>hg (by have q':b=g:=q;subst q';rfl))]
   exact h3
theorem zcp {w:World} {g:Nat} {o:Obj} (h:w.heap[g]? = some o):g<w.heap.size:=(Array.getElem?_eq_some_iff.1 h).1
theorem ItB.push {w w':World} {g base:Nat} {v v':Value} {ws:List (ByteArray × Bool)} {x:ByteArray × Bool} {o:Obj} (h:ItB w g base v ws) (hg:(w.alloc o).grownBy w' v.ownBlock) (hv:v'.ownBlock=v.ownBlock∨v'.ownBlock=some (w.heap.size+1))
 (hown:w'.ownsRow base 217 2 v' (ws.length+1) (ws.flatMap wdC++wdC x)):ItB (w'.setCell ⟨g,1,y⟩ v') g base v' (ws++[x]):=by
 have hl:=zcp h.box
 have hng:v'.ownBlock≠some g:=by
  rcases hv with q | q
  · rw [q];exact h.ng
  · rw [q]
    intro e
    cases e
    omega
 have hb:w'.heap[g]? = some (.cells #[z C 0,v,G false,m y 0 0] 211 (0,0)):=by
  rw [hg.block g (by simp;omega) (fun q=>h.ng q.symm),heap_alloc_old w o hl];exact h.box
 refine ⟨?_,?_,hng,?_⟩
 · rw [heap_setCell_same w' g 1 _ _ _ hb]
   rfl
 · have h1:=zfK (g:=g) (i:=1) (u:=v') hown hng
   simpa using h1
 · rw [World.size_setCell]
   have:=hg.size
   simp at this
   have:=h.lo
   omega
set_option maxRecDepth 100000
set_option maxHeartbeats 8000000
def zjp (P:Prop) (w:World) (e:Ending) (w':World):Prop:=∃ b:Bool,(b=true→P)∧e = I (G b)∧w=w'
theorem zhB (s:ByteArray):zgd s 0:=fun _ _ h=>absurd h (Nat.not_lt_zero _)
theorem zeB {s:ByteArray} {k:Nat} (hk:k<s.size) (h:zgd s k) (hc:okAt k s[k]=true):zgd s (k+1):=by
 intro i c hi hx
 rcases Nat.lt_succ_iff_lt_or_eq.1 hi with h' | rfl
 · exact h i c h' hx
 · have:c=s[i]:=by
    rw [Array.getElem?_eq_getElem (by simpa using hk)] at hx;exact (Option.some.inj hx).symm
   rw [this];exact hc
theorem zj8 {i:Nat} {c:UInt8} (h:(65≤(c.toNat:Int)∧(c.toNat:Int)≤90)∨(97≤(c.toNat:Int)∧(c.toNat:Int)≤122)∨(i≠0∧((48≤(c.toNat:Int)∧(c.toNat:Int)≤57)∨(c.toNat:Int)=95))):okAt i c=true:=by
 unfold okAt;simp only [Bool.or_eq_true,Bool.and_eq_true,decide_eq_true_eq,bne_iff_ne,beq_iff_eq];omega
theorem zmn {i:Nat} {c:UInt8} (h:okAt i c=true):(65≤(c.toNat:Int)∧(c.toNat:Int)≤90)∨(97≤(c.toNat:Int)∧(c.toNat:Int)≤122)∨(i≠0∧((48≤(c.toNat:Int)∧(c.toNat:Int)≤57)∨(c.toNat:Int)=95)):=by
 unfold okAt at h;simp only [Bool.or_eq_true,Bool.and_eq_true,decide_eq_true_eq,bne_iff_ne,beq_iff_eq] at h;omega
theorem zj5 {s:ByteArray} (h:NameOk s) {k:Nat} (hk:k<s.size):okAt k s[k]=true:=
 h.ok k s[k] hk (by rw [Array.getElem?_eq_getElem (by simpa using hk)];rfl)
theorem zdp (s:ByteArray) (w:World) (h:NameOk s):Calls H 91 #[D s] w fun e w'=>e = I (G true)∧w=w':=by
 have HH:=Hd h;have h1:=h.pos;have h2:=h.len;clear h
 have e1:((s.size:Int) == 0)=false:=by
  rw [beq_eq_false_iff_ne];omega
 have e2:decide ((12:Int)<(s.size:Int))=false:=by simp;omega
 go_enter Tryz.func91,Tryz.ntmps91;go_wp2
 go_loop [17] (fun i=>∃ k:Nat,k≤s.size∧i = z C k) (fun i=>s.size-(intOf i).toNat)
 case atStart=>exact ⟨0,J _,rfl⟩
 case round =>
  obtain ⟨k,hk,rfl⟩:=hrel
  by_cases hlt:k<s.size
  · have ho:=zmn (zj5 HH.out hlt)
    rcases ho with ⟨a,b⟩ | ⟨a,b⟩ | ⟨h0,⟨a,b⟩ | a⟩
    all_goals
     go_wp2
     all_goals first
      | (go_round
         case rel=>exact ⟨k+1,by omega,by go_num⟩
         case measure=>simp [intOf];omega)
      | (exfalso;omega)
      | (exfalso;simp at *;omega)
  · go_wp2
    go_ret
    exact ⟨rfl,rfl⟩
theorem zbf (s:ByteArray) (w:World) (hs:s.size≤maxLen):Calls H 27 #[D s] w (zjp (NameOk s) w):=by
 unfold maxLen at hs;have F:zjp (NameOk s) w (I (G false)) w:=⟨false,fun h=>absurd h (by decide),rfl,rfl⟩;have HF:=Hd F;clear F
 by_cases h1:1≤s.size
 case neg =>
  have h0:(s.size:Int)<1:=by omega
  go_enter Tryz.func27,Tryz.ntmps27;go_wp2;go_ret
  exact HF.out
 by_cases h2:s.size≤12
 case neg =>
  have h0:(12:Int)<(s.size:Int):=by omega
  go_enter Tryz.func27,Tryz.ntmps27;go_wp2;go_ret
  exact HF.out
 go_enter Tryz.func27,Tryz.ntmps27;go_wp2
 go_loop [3] (fun i=>∃ k:Nat,k≤s.size∧i = z C k∧zgd s k) (fun i=>s.size-(intOf i).toNat)
 case atStart=>exact ⟨0,J _,rfl,zhB s⟩
 case round =>
  obtain ⟨k,hk,rfl,hok⟩:=hrel;have HK:=Hd hok;clear hok
  by_cases hlt:k<s.size
  · rcases Nat.eq_zero_or_pos k with rfl | hp
    rotate_left
    by_cases hd:(s[k].toNat:Int)<48
    all_goals
     go_wp2
     all_goals first
      | (go_ret;exact HF.out)
      | (have hc:=zj8 (i:=0) (c:=s[0]) (by omega)
         go_round
         case rel=>exact ⟨1,by omega,by go_num,zeB hlt HK.out hc⟩
         case measure=>simp [intOf];omega)
      | (have hc:=zj8 (i:=k) (c:=s[k]) (by first | omega | (simp at *;omega))
         go_round
         case rel=>exact ⟨k+1,by omega,by go_num,zeB hlt HK.out hc⟩
         case measure=>simp [intOf];omega)
      | (exfalso;simp at *;omega)
  · go_wp2
    go_ret
    obtain rfl:k=s.size:=by omega
    exact ⟨true,fun _=>⟨h1,h2,HK.out⟩,rfl,rfl⟩
theorem zjd (n lo hi:Int) (w:World):Calls H 131 #[z C n,z C lo,z C hi] w fun e w'=>e = I (G (inB n lo hi))∧w=w':=by
 by_cases h1:lo≤n
 · by_cases h2:n≤hi
   · go_enter Tryz.func131,Tryz.ntmps131
     go_wp2
     go_ret
     exact ⟨zcV (zaF.2 ⟨h1,h2⟩),rfl⟩
   · go_enter Tryz.func131,Tryz.ntmps131
     go_wp2
     go_ret
     exact ⟨zcV (zcZ.2 (by omega)),rfl⟩
 · go_enter Tryz.func131,Tryz.ntmps131
   go_wp2
   go_ret
   exact ⟨zcV (zcZ.2 (by omega)),rfl⟩
theorem zbm (n lo hi:Int) (h:lo≤n∧n≤hi) (w:World):Calls H 131 #[z C n,z C lo,z C hi] w fun e w'=>e = I (G true)∧w=w' :=
 (zjd n lo hi w).mono fun _ _ ⟨he,hw⟩=>⟨by rw [he,zaF.2 h],hw⟩
theorem zgy (r x:Int) (h:Ohm r x) (w:World):Calls H 130 #[.agg #[z C r,z C x]] w (zaG true w):=by
 obtain ⟨h1,h2,h3,h4⟩:=h;go_enter Tryz.func130,Tryz.ntmps130
 go_wp2_with (first
  | (go_at_call 131;(with_reducible refine (zbm r 0 1000 ⟨h1,h2⟩ _).mono ?_);rintro e w' ⟨rfl,rfl⟩)
  | (go_at_call 131;(with_reducible refine (zbm x 1 1000 ⟨h3,h4⟩ _).mono ?_);rintro e w' ⟨rfl,rfl⟩))
 go_ret
 exact ⟨rfl,zaa _ _⟩
theorem zki (x:BayM) (A:Option Addr) (c:Nat) (h:zge x) (w:World) :
 Calls H 132 #[.agg #[D x.name,z C x.kind,z C x.ofi,z C x.en,z C x.zr,z C x.zx,m A x.links.length c,G x.closed,z C x.ct,z C x.vt,z C x.sat,z C x.travel]] w (zaG true w):=by
 obtain ⟨⟨hen0,hen⟩,hz,hct,hsa,htr⟩:=h;have E1:=Hd hen;clear hen
 rcases hz with ⟨hk,ho,hv⟩ | ⟨hk,hzr,hzx,hv1,hv2⟩
 · have HO:=Hd ho
   have hen':x.en=0:=by have:=E1.out;omega
   clear ho
   go_enter Tryz.func132,Tryz.ntmps132
   go_wp2_with (first
    | (go_at_call 130;refine (zgy x.zr x.zx HO.out _).mono ?_;rintro e w2 ⟨rfl,j⟩;obtain ⟨hc,hf⟩:=zcv j)
    | (go_at_call 131;refine (zbm _ _ _ (by omega) _).mono ?_;rintro e w' ⟨rfl,rfl⟩))
   go_ret
   exact ⟨rfl,Below.then (zaa _ _) j⟩
 · have hk3:(x.kind == 3)=false:=by simpa using hk
   have hk1:((x.kind == 1)=true∧x.en≤1)∨((x.kind == 1)=false∧x.en=0):=by
    rw [beq_iff_eq,beq_eq_false_iff_ne];have:=E1.out;omega
   rcases hk1 with ⟨hk1,he⟩ | ⟨hk1,he⟩
   all_goals
    go_enter Tryz.func132,Tryz.ntmps132
    go_wp2_with (first
     | (go_at_call 131;refine (zbm _ _ _ (by omega) _).mono ?_;rintro e w' ⟨rfl,rfl⟩))
    go_ret
    exact ⟨rfl,zaa _ _⟩
theorem zil {xs:List ByteArray} {s:ByteArray} (h:idx (fun r=>same r s) xs<0):seen xs xs.length s=false:=by
 rw [zdE,List.take_length];simpa using h
theorem zhL (A:Option Addr) (c B:Nat) (xs:List ByteArray) (s:ByteArray) (w:World) (hr:Rws StrC 1 w B A xs.length xs) (hn:xs.length≤1000) (hs:s.size≤maxLen) :
 Calls H 28 #[m A xs.length c,D s] w (ErrSays (NameOk s∧seen xs xs.length s=false) w):=by
 have HR:=Hd hr;clear hr;go_enter Tryz.func28,Tryz.ntmps28;go_wp2_with fail
 refine (zbf s w hs).mono ?_
 rintro e w1 ⟨b,q,rfl,rfl⟩
 cases b
 · go_wp2
   go_ret
   exact ErrSays.no (Below.refl _ _) (by decide)
 have hq:=q rfl;have HQ:=Hd hq;clear q hq;go_wp2_with fail
 refine (zcd A c B xs s w HR.out (by omega)).mono ?_
 rintro e w1 ⟨rfl,rfl⟩
 go_wp2
 · go_ret
   exact ErrSays.no (Below.refl _ _) (by decide)
 · go_ret
   exact ErrSays.of (Below.refl _ _) fun _=>⟨HQ.out,zil (by omega)⟩
def StatM.someNames (S:StatM) (a b c d:Nat):List ByteArray:=S.buses.take a++(S.lines.map (·.name)).take b++(S.sources.map (·.name)).take c++(S.bays.map (·.name)).take d
def grow (base l:List ByteArray) (k:Nat):List Value:=(base++l.take k).map D
theorem zew (base l:List ByteArray):grow base l 0=base.map D:=by simp [grow]
theorem zev {base l:List ByteArray} {k:Nat} {x:ByteArray} (h:l[k]? = some x):grow base l (k+1)=grow base l k++[D x]:=by
 unfold grow;rw [List.take_add_one,h];simp
theorem zey {α:Type} (f:α→ByteArray) {l:List α} {k:Nat} {x:α} (h:l[k]? = some x):(l.map f)[k]? = some (f x):=by rw [List.getElem?_map,h];rfl
theorem zlv {w:World} {A:Option Addr} {B n a:Nat} {xs:List ByteArray} (h:Rws StrC 1 w B A n xs) (ha:a≤n):Src w 1 A a ((xs.take a).map D):=by
 refine ⟨by rw [List.length_map,List.length_take,Nat.mul_one];have:=h.1;omega,fun hpos => ?_⟩
 obtain ⟨b,o,e,-,hr⟩:=h.2 (by omega);refine ⟨_,e,fun j u hu => ?_⟩
 rw [List.getElem?_map,List.getElem?_take] at hu
 split at hu
 · rename_i hj
   have hjl:j<xs.length:=by have:=h.1;omega
   rw [List.getElem?_eq_getElem hjl] at hu
   obtain ⟨cs,-,⟨rfl,-⟩,hat⟩:=hr j _ (List.getElem?_eq_getElem hjl)
   have:=hat 0 _ rfl
   rw [Addr.add_mid]
   simp only [Option.map_some,Option.some.injEq] at hu
   subst hu
   simpa using this
 · simp at hu
theorem zi7 (B:Nat) (p:StAt) (S:StatM) (a b c d:Nat) (w:World) (hB:B≤w.heap.size) (hS:StC w B p S) (ha:a≤S.buses.length) (hb:b≤S.lines.length) (hc:c≤S.sources.length) (hd:d≤S.bays.length)
 (h1:1≤S.buses.length) (h4:S.buses.length≤4) (h6:S.lines.length≤6) (h44:S.sources.length≤4) (h16:S.bays.length≤16) :
 Calls H 29 #[.agg #[D S.name,m p.A1 S.buses.length p.c1,m p.A2 S.lines.length p.c2,m p.A3 S.sources.length p.c3,m p.A4 S.bays.length p.c4],z C a,z C b,z C c,z C d] w (RetRow 9 1 (a+b+c+d) ((S.someNames a b c d).map .string) w):=by
 obtain ⟨i0,hi,hz0,hz1,hz2⟩:=info_parts zbn;have HS:=Hd hS;have hsrc:=zlv hS.buses ha;have hk1:=hS.k1;clear hS;obtain ⟨A1,A2,A3,A4,k1,k2,k3,k4⟩:=p;dsimp only at hk1 hsrc;obtain ⟨hk11,hk12⟩:=hk1;unfold maxLen at hk12;obtain ⟨b0,o0,e0,hb0,-⟩:=HS.out.buses.2 (by omega);have e0':A1=some ⟨b0,o0,y⟩:=e0;subst e0';clear e0;have ha0:(0:Int)≤(a:Int):=by omega
 have ha1:(a:Int)≤(S.buses.length:Int):=by omega
 have ha2:(a:Int)≤(k1:Int):=by omega
 have hbox:=zaa w (E #[D S.name,m (some ⟨b0,o0,y⟩) S.buses.length k1,m A2 S.lines.length k2,m A3 S.sources.length k3,m A4 S.bays.length k4] 27);have hl:(S.buses.take a).length=a:=by rw [List.length_take];omega
 have HL:=Hd hl;clear hl
 have hown0:((w.alloc (E #[D S.name,m (some ⟨b0,o0,y⟩) S.buses.length k1,m A2 S.lines.length k2,m A3 S.sources.length k3,m A4 S.bays.length k4] 27)).alloc (E #[] 9)).ownsRow (w.heap.size+1) 9 1 (m (some ⟨w.heap.size+1,0,y⟩) 0 0) 0 []:=by
  simpa using zcO (w:=w.alloc (E #[D S.name,m (some ⟨b0,o0,y⟩) S.buses.length k1,m A2 S.lines.length k2,m A3 S.sources.length k3,m A4 S.bays.length k4] 27)) (t := 9) [] (J _)
 have hbel0:Below (w.heap.size+1) (w.alloc (E #[D S.name,m (some ⟨b0,o0,y⟩) S.buses.length k1,m A2 S.lines.length k2,m A3 S.sources.length k3,m A4 S.bays.length k4] 27)) ((w.alloc (E #[D S.name,m (some ⟨b0,o0,y⟩) S.buses.length k1,m A2 S.lines.length k2,m A3 S.sources.length k3,m A4 S.bays.length k4] 27)).alloc (E #[] 9)):=by
  simpa using zaa (w.alloc (E #[D S.name,m (some ⟨b0,o0,y⟩) S.buses.length k1,m A2 S.lines.length k2,m A3 S.sources.length k3,m A4 S.bays.length k4] 27)) (E #[] 9)
 have hsrc1:Src ((w.alloc (E #[D S.name,m (some ⟨b0,o0,y⟩) S.buses.length k1,m A2 S.lines.length k2,m A3 S.sources.length k3,m A4 S.bays.length k4] 27)).alloc (E #[] 9)) 1 (some ⟨b0,o0,y⟩) a ((S.buses.take a).map D):=by
  refine ⟨hsrc.1,fun hp => ?_⟩
  obtain ⟨ad,e,hc⟩:=hsrc.2 hp
  cases e
  refine ⟨_,rfl,fun j u hu => ?_⟩
  have hlt:b0<w.heap.size:=by omega
  have:=hc j u hu;rw [Addr.add_mid] at this ⊢;exact ((zbq w _ _).cell (p:=⟨b0,o0+j,y⟩) hlt).trans this
 have HSR:=Hd hsrc1;have HO:=Hd hown0;clear hsrc hsrc1 hown0;go_enter Tryz.func29,Tryz.ntmps29
 go_wp2_with (first
  | (at_builtin;refine zbV _ _ 22 rfl rfl Tryz.underlying22 hi hz0 hz1 hz2 rfl (by decide) rfl HO.out hbel0 rfl HSR.out (zdG _) (by unfold maxLen;simp;omega) (by simp;omega) (by simp) ?_;intro v1 w1 hown1 hbel1 hsz1))
 go_wp2
 go_loopw [11,12] (zbW 9 1 (w.heap.size+1) (w.alloc (E #[D S.name,m (some ⟨b0,o0,y⟩) S.buses.length k1,m A2 S.lines.length k2,m A3 S.sources.length k3,m A4 S.bays.length k4] 27)) b (fun k=>a+k) (grow (S.buses.take a) (S.lines.map (·.name)))) (fun _ i _=>b-(intOf i).toNat)
 case atStart=>exact ⟨0,J _,rfl,by simpa [zew] using hown1,hbel1⟩
 case round =>
  clear hown1 hbel1;obtain ⟨k,hk,rfl,hown,hbel⟩:=hrel;dsimp only at hown;have hbw:Below w.heap.size w wr:=hbox.trans (hbel.mono (by omega));have q:wr.cell? ⟨w.heap.size,2,y⟩=some (m A2 S.lines.length k2):=(hbel.cell (p:=⟨w.heap.size,2,y⟩) (by simp)).trans (by simp);have hsz:=hbel.size;simp only [L] at hsz
  by_cases hlt:k<b
  · obtain ⟨b1,o1,cs,x,e1,hb1,hx,-,hC,hat⟩:=(HS.out.lines.mono LineC.mono (K _) (hbw.mono hB)).at_ (k:=k) (by omega)
    have e1':A2=some ⟨b1,o1,y⟩:=e1
    subst e1'
    obtain ⟨rfl,-⟩:=hC
    have hc0:wr.cell? ⟨b1,o1+k*5,y⟩=some (D x.name):=by simpa using hat 0 _ rfl
    have hb1':b1<wr.heap.size:=by omega
    have HX:=Hd (zey (·.name) hx)
    have hk1:(k:Int)<(S.lines.length:Int):=by omega
    have hk0:(0:Int)≤(k:Int):=by omega
    have HO:=Hd hown
    clear hown hx hat e1
    go_wp2_with (first
     | (at_builtin;refine zaK _ _ 22 rfl rfl Tryz.underlying22 hi hz0 hz1 hz2 rfl (by decide) rfl HO.out hbel _ rfl rfl rfl (by simp [Value.oneCell']) (by omega) (by unfold maxLen;omega) hsz ?_;intro v' w' hown' hbel' _))
    go_roundw
    case rel=>exact ⟨k+1,by omega,by go_num,by dsimp only;rw [zev HX.out];exact hown',hbel'⟩
    case measure=>simp [intOf];omega
  · obtain rfl:b=k:=by omega
    have hown2:=hown
    have hbel2:=hbel
    clear q hown hbel hsz
    go_wp2
    go_loopw [11,13] (zbW 9 1 (w.heap.size+1) (w.alloc (E #[D S.name,m (some ⟨b0,o0,y⟩) S.buses.length k1,m A2 S.lines.length k2,m A3 S.sources.length k3,m A4 S.bays.length k4] 27)) c (fun k=>a+b+k) (grow ((S.buses.take a++(S.lines.map (·.name)).take b)) (S.sources.map (·.name)))) (fun _ i _=>c-(intOf i).toNat)
    case atStart=>exact ⟨0,J _,rfl,by rw [zew];simpa [grow] using hown2,hbel2⟩
    case round =>
     clear hown2 hbel2
     obtain ⟨k,hk,rfl,hown,hbel⟩:=hrel
     dsimp only at hown
     have hbw:Below w.heap.size w wr:=hbox.trans (hbel.mono (by omega))
     have q:wr.cell? ⟨w.heap.size,3,y⟩=some (m A3 S.sources.length k3):=(hbel.cell (p:=⟨w.heap.size,3,y⟩) (by simp)).trans (by simp)
     have hsz:=hbel.size
     simp only [L] at hsz
     by_cases hlt:k<c
     · obtain ⟨b1,o1,cs,x,e1,hb1,hx,-,hC,hat⟩:=(HS.out.sources.mono SourceC.mono (K _) (hbw.mono hB)).at_ (k:=k) (by omega)
       have e1':A3=some ⟨b1,o1,y⟩:=e1
       subst e1'
       obtain ⟨rfl,-⟩:=hC
       have hc0:wr.cell? ⟨b1,o1+k*6,y⟩=some (D x.name):=by simpa using hat 0 _ rfl
       have hb1':b1<wr.heap.size:=by omega
       have HX:=Hd (zey (·.name) hx)
       have hk1:(k:Int)<(S.sources.length:Int):=by omega
       have hk0:(0:Int)≤(k:Int):=by omega
       have HO:=Hd hown
       clear hown hx hat e1
       go_wp2_with (first
        | (at_builtin;refine zaK _ _ 22 rfl rfl Tryz.underlying22 hi hz0 hz1 hz2 rfl (by decide) rfl HO.out hbel _ rfl rfl rfl (by simp [Value.oneCell']) (by omega) (by unfold maxLen;omega) hsz ?_;intro v' w' hown' hbel' _))
       go_roundw
       case rel=>exact ⟨k+1,by omega,by go_num,by dsimp only;rw [zev HX.out];exact hown',hbel'⟩
       case measure=>simp [intOf];omega
     · obtain rfl:c=k:=by omega
       have hown3:=hown
       have hbel3:=hbel
       clear q hown hbel hsz
       go_wp2
       go_loopw [11,14] (zbW 9 1 (w.heap.size+1) (w.alloc (E #[D S.name,m (some ⟨b0,o0,y⟩) S.buses.length k1,m A2 S.lines.length k2,m A3 S.sources.length k3,m A4 S.bays.length k4] 27)) d (fun k=>a+b+c+k) (grow ((S.buses.take a++(S.lines.map (·.name)).take b++(S.sources.map (·.name)).take c)) (S.bays.map (·.name)))) (fun _ i _=>d-(intOf i).toNat)
       case atStart=>exact ⟨0,J _,rfl,by rw [zew];simpa [grow] using hown3,hbel3⟩
       case round =>
        clear hown3 hbel3
        obtain ⟨k,hk,rfl,hown,hbel⟩:=hrel
        dsimp only at hown
        have hbw:Below w.heap.size w wr:=hbox.trans (hbel.mono (by omega))
        have q:wr.cell? ⟨w.heap.size,4,y⟩=some (m A4 S.bays.length k4):=(hbel.cell (p:=⟨w.heap.size,4,y⟩) (by simp)).trans (by simp)
        have hsz:=hbel.size
        simp only [L] at hsz
        by_cases hlt:k<d
        · obtain ⟨b1,o1,cs,x,e1,hb1,hx,-,hC,hat⟩:=(HS.out.bays.mono BayC.mono (K _) (hbw.mono hB)).at_ (k:=k) (by omega)
          have e1':A4=some ⟨b1,o1,y⟩:=e1
          subst e1'
          obtain ⟨A5,c5,rfl,-,-,-,-⟩:=hC
          have hc0:wr.cell? ⟨b1,o1+k*12,y⟩=some (D x.name):=by simpa using hat 0 _ rfl
          have hb1':b1<wr.heap.size:=by omega
          have HX:=Hd (zey (·.name) hx)
          have hk1:(k:Int)<(S.bays.length:Int):=by omega
          have hk0:(0:Int)≤(k:Int):=by omega
          have HO:=Hd hown
          clear hown hx hat e1
          go_wp2_with (first
           | (at_builtin;refine zaK _ _ 22 rfl rfl Tryz.underlying22 hi hz0 hz1 hz2 rfl (by decide) rfl HO.out hbel _ rfl rfl rfl (by simp [Value.oneCell']) (by omega) (by unfold maxLen;omega) hsz ?_;intro v' w' hown' hbel' _))
          go_roundw
          case rel=>exact ⟨k+1,by omega,by go_num,by dsimp only;rw [zev HX.out];exact hown',hbel'⟩
          case measure=>simp [intOf];omega
        · obtain rfl:d=k:=by omega
          have hown4:=hown
          have hbel4:=hbel
          clear q hown hbel hsz
          go_wp2
          go_ret
          exact RetRow.mk (by simpa [grow,StatM.someNames] using hown4) (by omega) hbw
end Go.Proofs.YtjkimieapfbhbaaGreatDoor
