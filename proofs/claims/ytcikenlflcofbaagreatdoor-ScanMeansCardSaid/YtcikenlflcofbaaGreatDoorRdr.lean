/-
  The reference's reader: its variable, is, eat, need and two.
-/
import Derived.Test.YtcikenlflcofbaaGreatDoorLV
import Derived.Test.YtcikenlflcofbaaGreatDoorKRdP
set_option maxRecDepth 100000
set_option maxHeartbeats 8000000
namespace Go.Proofs.YtcikenlflcofbaaGreatDoor
open Go.RowKit
def TkrC (_:World) (_:Nat→Prop) (cs:List Value) (t:Tok):Prop:=cs=[.int .i64 t.kind,.string ⟨t.text.toArray⟩,.int .i64 t.pos]
theorem TkrC.mono:zdH TkrC:=fun _ _ _ _ _ _ _ _ h=>h
structure TRB (w:World) (b o:Nat) (t:Tok):Prop where
  c0:w.cell? ⟨b,o,none⟩=some (.int .i64 t.kind)
  c1:w.cell? ⟨b,o+1,none⟩=some (.string ⟨t.text.toArray⟩)
  c2:w.cell? ⟨b,o+2,none⟩=some (.int .i64 t.pos)
def zdY (A:Option Addr) (c:Nat) (l:List Tok) (s:RSt):Obj := .cells #[.slice A l.length c,.int .i64 s.i,.bool s.bad,.int .i64 s.la] 96 (0,0)
structure RS (rb:Nat) (A:Option Addr) (c:Nat) (t:List UInt8) (l:List Tok) (s:RSt) (w:World):Prop where
  heap:w.heap[rb]? = some (zdY A c l s)
  toks:Rw TkrC 3 w (fun b=>b<w.heap.size∧b≠rb) A l.length l
  le:s.i≤l.length
  len:l.length≤t.length
  short:t.length≤120
  words:∀ k∈l,TokW t k
theorem RS.ltp {rb:Nat} {A:Option Addr} {c:Nat} {t:List UInt8} {l:List Tok} {s:RSt} {w:World} (h:RS rb A c t l s w):rb<w.heap.size:=(Array.getElem?_eq_some_iff.1 h.heap).1
theorem RS.cells {rb:Nat} {A:Option Addr} {c:Nat} {t:List UInt8} {l:List Tok} {s:RSt} {w:World} (h:RS rb A c t l s w) :
    w.cell? ⟨rb,0,none⟩=some (.slice A l.length c)∧w.cell? ⟨rb,1,none⟩=some (.int .i64 s.i)∧w.cell? ⟨rb,2,none⟩=some (.bool s.bad)∧w.cell? ⟨rb,3,none⟩=some (.int .i64 s.la) ∧
    w.frozen? ⟨rb,1,none⟩=false∧w.frozen? ⟨rb,2,none⟩=false∧w.frozen? ⟨rb,3,none⟩=false:=by
  have hh:w.heap[rb]? = some (.cells #[.slice A l.length c,.int .i64 s.i,.bool s.bad,.int .i64 s.la] 96 (0,0)):=h.heap;exact ⟨by simp [World.cell?,hh],by simp [World.cell?,hh],by simp [World.cell?,hh],by simp [World.cell?,hh],Lib.frozen_of_heap hh 1,Lib.frozen_of_heap hh 2,Lib.frozen_of_heap hh 3⟩
theorem RS.tok {rb:Nat} {A:Option Addr} {c:Nat} {t:List UInt8} {l:List Tok} {s:RSt} {w:World} (h:RS rb A c t l s w) (hi:s.i<l.length) :
    ∃ b o,A=some ⟨b,o,none⟩∧b<w.heap.size∧b≠rb∧TRB w b (o+s.i*3) (tk l s.i)∧TokW t (tk l s.i):=by
  obtain ⟨b,o,cs,x,e,⟨hb,hne⟩,hx,_,hR,hat⟩:=h.toks.at_ hi;obtain rfl:cs=_:=hR;have ht:tk l s.i=x:=by unfold tk;rw [List.getD_eq_getElem?_getD,hx];rfl
  rw [ht];exact ⟨b,o,e,hb,hne,⟨by simpa using hat 0 _ rfl,hat 1 _ rfl,hat 2 _ rfl⟩,h.words x (List.mem_of_getElem? hx)⟩
def LeftR (rb:Nat) (A:Option Addr) (c:Nat) (l:List Tok) (s:RSt) (w w':World):Prop:=w.grownBy w' (some rb)∧w'.heap[rb]? = some (zdY A c l s)
theorem RS.left {rb:Nat} {A:Option Addr} {c:Nat} {t:List UInt8} {l:List Tok} {s s':RSt} {w w':World} (h:RS rb A c t l s w) (hl:LeftR rb A c l s' w w') (hs:s'.i≤l.length):RS rb A c t l s' w' :=
  ⟨hl.2,h.toks.mono TkrC.mono (fun b hb=>⟨Nat.lt_of_lt_of_le hb.1 hl.1.size,hb.2⟩) (zah hl.1 fun b hb=>⟨hb.1,fun e=>hb.2 (by injection e)⟩),hs,h.len,h.short,h.words⟩
theorem LeftR.refl {rb:Nat} {A:Option Addr} {c:Nat} {t:List UInt8} {l:List Tok} {s:RSt} {w:World} (h:RS rb A c t l s w):LeftR rb A c l s w w:=⟨World.grownBy.refl w _,h.heap⟩
theorem LeftR.lt {rb:Nat} {A:Option Addr} {c:Nat} {l:List Tok} {s:RSt} {w w':World} (h:LeftR rb A c l s w w'):rb<w'.heap.size:=(Array.getElem?_eq_some_iff.1 h.2).1
theorem LeftR.below {rb:Nat} {A:Option Addr} {c:Nat} {l:List Tok} {s:RSt} {w w' w'':World} (h:LeftR rb A c l s w w') (hb:Below w'.heap.size w' w''):LeftR rb A c l s w w'':=⟨h.1.trans (zap hb),(hb.block rb h.lt).trans h.2⟩
theorem LeftR.trans {rb:Nat} {A:Option Addr} {c:Nat} {l:List Tok} {s s':RSt} {w w' w'':World} (h:LeftR rb A c l s w w') (k:LeftR rb A c l s' w' w''):LeftR rb A c l s' w w'':=⟨h.1.trans k.1,k.2⟩
theorem LeftR.pre {rb:Nat} {A:Option Addr} {c:Nat} {l:List Tok} {s:RSt} {w w' w'':World} (hb:Below w.heap.size w w') (h:LeftR rb A c l s w' w''):LeftR rb A c l s w w'':=⟨(zap hb).trans h.1,h.2⟩
theorem LeftR.alloc {rb:Nat} {A:Option Addr} {c:Nat} {l:List Tok} {s:RSt} {w w':World} (h:LeftR rb A c l s w w') (o:Obj):LeftR rb A c l s w (w'.alloc o):=h.below (zaa w' o)
theorem LeftR.drew {rb:Nat} {A:Option Addr} {c:Nat} {l:List Tok} {s:RSt} {w w':World} (h:LeftR rb A c l s w w'):LeftR rb A c l s w w'.drew:=h.below (zad (Below.refl _ _))
theorem RS.below {rb:Nat} {A:Option Addr} {c:Nat} {t:List UInt8} {l:List Tok} {s:RSt} {w w':World} (h:RS rb A c t l s w) (hb:Below w.heap.size w w'):RS rb A c t l s w':=h.left ((LeftR.refl h).below hb) h.le
theorem LeftR.place {rb:Nat} {A:Option Addr} {c:Nat} {l:List Tok} {s:RSt} {w w':World} (h:LeftR rb A c l s w w'):LeftR rb A c l (zbO s) w (w'.setCell ⟨rb,1,none⟩ (.int .i64 ((s.i:Int)+1))):=
  ⟨h.1.trans (zaf w' rb 1 _),by have:=heap_setCell_same w' rb 1 _ _ (.int .i64 ((s.i:Int)+1)) h.2;rw [this];rfl⟩
theorem LeftR.fail {rb:Nat} {A:Option Addr} {c:Nat} {l:List Tok} {s:RSt} {w w':World} (h:LeftR rb A c l s w w'):LeftR rb A c l (zdJ s) w (w'.setCell ⟨rb,2,none⟩ (.bool true)):=
  ⟨h.1.trans (zaf w' rb 2 _),by have:=heap_setCell_same w' rb 2 _ _ (.bool true) h.2;rw [this];rfl⟩
theorem LeftR.late {rb:Nat} {A:Option Addr} {c:Nat} {l:List Tok} {s:RSt} {w w':World} (h:LeftR rb A c l s w w') (p:Int):LeftR rb A c l ⟨s.i,s.bad,p⟩ w (w'.setCell ⟨rb,3,none⟩ (.int .i64 p)):=
  ⟨h.1.trans (zaf w' rb 3 _),by have:=heap_setCell_same w' rb 3 _ _ (.int .i64 p) h.2;rw [this];rfl⟩
def RetBq (b:Bool) (w:World) (e:Ending) (w':World):Prop:=e = .returned (.bool b)∧Below w.heap.size w w'
theorem zlm {l:List Tok} {s:RSt} {v:List UInt8} (h:l.length≤s.i):hitR l s v=false:=by
  unfold hitR;simp [show ¬ s.i<l.length by omega]
theorem zkT {l:List Tok} {i:Nat} {la:Int} {v:List UInt8} (h:i<l.length):hitR l ⟨i,false,la⟩ v=(decide ((tk l i).kind≠2) && (tk l i).text == v):=by
  unfold hitR;simp [h]
theorem is_any {rb:Nat} {A:Option Addr} {c:Nat} {t:List UInt8} {l:List Tok} {s:RSt} {w:World} (v:List UInt8) (h:RS rb A c t l s w):Calls Tryz.prog 101 #[.pointer (some ⟨rb,0,none⟩),.string ⟨v.toArray⟩] w (RetBq (hitR l s v) w):=by
  obtain ⟨p0,p1,p2,p3,f1,f2,f3⟩:=h.cells;have hp:=h.ltp;have hlen:l.length≤120:=Nat.le_trans h.len h.short;obtain ⟨i,bad,la⟩:=s;dsimp only at *
  cases bad with
  | true =>
    clear h;go_enter Tryz.func101,Tryz.ntmps101;go_wp2;go_region
    go_wp2;go_ret
    exact ⟨rfl,zad (Below.refl _ _)⟩
  | false =>
  by_cases hi:i<l.length
  case neg =>
    have HH:=Hi (zlm (s:=⟨i,false,la⟩) (v:=v) (show l.length≤i by omega));have dq:decide (i<l.length)=false:=by simp;omega
    clear h;go_enter Tryz.func101,Tryz.ntmps101;go_wp2;go_region
    go_wp2;go_ret
    exact ⟨zae HH.out.symm,zad (Below.refl _ _)⟩
  have hq:(i:Int)<(l.length:Int):=by omega
  have HH:=Hi (zkT (la:=la) (v:=v) hi);obtain ⟨b,o,rfl,hb,hne,⟨t0,t1,t2⟩,-⟩:=h.tok hi;dsimp only at *;clear h;generalize tk l i=k at *
  by_cases hk:k.kind=2
  · have hk1:(k.kind != 2)=false:=by simp [hk]
    have HF:=Hi (show hitR l ⟨i,false,la⟩ v=false by rw [HH.out];simp [hk])
    clear hk HH
    go_enter Tryz.func101,Tryz.ntmps101
    go_wp2
    go_region
    go_wp2
    go_ret
    exact ⟨zae HF.out.symm,zad (Below.refl _ _)⟩
  · have hk1:(k.kind != 2)=true:=by simp [hk]
    have HF:=Hi (show hitR l ⟨i,false,la⟩ v=(k.text == v) by rw [HH.out];simp [hk])
    clear hk HH
    go_enter Tryz.func101,Tryz.ntmps101
    go_wp2
    go_region
    go_wp2
    go_ret
    exact ⟨zae (by rw [HF.out]),zad (Below.refl _ _)⟩
def RetEat (rb:Nat) (A:Option Addr) (c:Nat) (l:List Tok) (b:Bool) (s:RSt) (w:World) (e:Ending) (w':World):Prop:=e = .returned (.bool b)∧LeftR rb A c l s w w'
theorem zg1 {l:List Tok} {s:RSt} {v:List UInt8} (h:hitR l s v=true):s.i<l.length∧s.bad=false:=by
  unfold hitR at h;simp only [Bool.and_eq_true,decide_eq_true_eq,Bool.not_eq_true'] at h;exact ⟨h.2.1,h.1⟩
theorem zcQ {rb:Nat} {A:Option Addr} {c:Nat} {t:List UInt8} {l:List Tok} {s:RSt} {w:World} (v:List UInt8) (h:RS rb A c t l s w):Calls Tryz.prog 87 #[.pointer (some ⟨rb,0,none⟩),.string ⟨v.toArray⟩] w (RetEat rb A c l (hitR l s v) (if hitR l s v then zbO s else s) w):=by
  have C:=is_any v h;have hlen:l.length≤120:=Nat.le_trans h.len h.short;have hle:=h.le;have HL:=Hi (LeftR.refl h);have HS:=Hi h;clear h
  cases hq:hitR l s v with
  | false =>
    rw [hq] at C;have HC:=Hi C;clear C hq;go_enter Tryz.func87,Tryz.ntmps87;go_wp2_with fail
    refine HC.out.mono ?_
    rintro e w1 ⟨rfl,hb⟩
    have HB:=Hi hb;clear hb;go_wp2;go_ret
    exact ⟨rfl,HL.out.below HB.out⟩
  | true =>
    rw [hq] at C;have HC:=Hi C;clear C hq;go_enter Tryz.func87,Tryz.ntmps87;go_wp2_with fail
    refine HC.out.mono ?_
    rintro e w1 ⟨rfl,hb⟩
    obtain ⟨p0,p1,p2,p3,f1,f2,f3⟩:=(HS.out.below hb).cells;have HB:=Hi hb;have hp:=(HS.out.below hb).ltp;clear hb;go_wp2;go_ret
    exact ⟨rfl,(HL.out.below HB.out).place⟩
def RetSt (rb:Nat) (A:Option Addr) (c:Nat) (l:List Tok) (s:RSt) (w:World) (e:Ending) (w':World):Prop:=e = .returned (.tuple #[])∧LeftR rb A c l s w w'
theorem zbE {rb:Nat} {A:Option Addr} {c:Nat} {t:List UInt8} {l:List Tok} {s:RSt} {w:World} (v:List UInt8) (h:RS rb A c t l s w):Calls Tryz.prog 98 #[.pointer (some ⟨rb,0,none⟩),.string ⟨v.toArray⟩] w (RetSt rb A c l (zb2 l v s) w):=by
  have C:=zcQ v h;have HS:=Hi h;have HN:=Hi (show zb2 l v s=if hitR l s v then zbO s else zdJ s from rfl);clear h
  cases hq:hitR l s v with
  | true =>
    rw [hq,if_pos rfl] at C;rw [HN.out,hq,if_pos rfl];have HC:=Hi C;clear C hq HN;go_enter Tryz.func98,Tryz.ntmps98;go_wp2_with fail
    refine HC.out.mono ?_
    rintro e w1 ⟨rfl,hl⟩
    have HL:=Hi hl;clear hl;go_wp2;go_end0
    exact ⟨rfl,HL.out⟩
  | false =>
    rw [hq,if_neg (by decide)] at C;rw [HN.out,hq,if_neg (by decide)];have HC:=Hi C;clear C hq HN;go_enter Tryz.func98,Tryz.ntmps98;go_wp2_with fail
    refine HC.out.mono ?_
    rintro e w1 ⟨rfl,hl⟩
    have hs1:=HS.out.left hl HS.out.le;obtain ⟨p0,p1,p2,p3,f1,f2,f3⟩:=hs1.cells;have hp:=hs1.ltp;have HL:=Hi hl;clear hl hs1;go_wp2;go_end0
    exact ⟨rfl,HL.out.fail⟩
theorem zcu {l:List Tok} {v:List UInt8} {s:RSt} (h:s.i≤l.length):(zb2 l v s).i≤l.length:=by
  unfold zb2
  split
  · exact (zg1 ‹_›).1
  · exact h
end Go.Proofs.YtcikenlflcofbaaGreatDoor
