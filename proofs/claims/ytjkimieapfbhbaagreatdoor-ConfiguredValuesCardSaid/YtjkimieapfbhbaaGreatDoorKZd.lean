/-
 The configuration language's tests of words: they end, whatever they say.
-/
import Derived.Test.YtjkimieapfbhbaaGreatDoorKRSe
import Derived.Laws.RangeString
import Derived.WalkSmall
import Derived.Deep.DeepCutAuto
import Derived.Deep.CutRange
import Derived.Test.YtjkimieapfbhbaaGreatDoorKVg
import Derived.Laws.EntriesVeiled
set_option maxRecDepth 100000
set_option maxHeartbeats 8000000
open Option renaming none → f
open Go.Value renaming int → g, slice → m, bool → t, string → D
open Go.IntKind renaming i64 → l
open Go.Obj renaming cells → C
open Go.Proofs.Tryz renaming prog → E
open Nat renaming zero_le → F
namespace Go.Proofs.YtjkimieapfbhbaaGreatDoor
open Go.RowKit
def zl2 (w:World) (e:Ending) (w':World):Prop:=(∃ b,e = .returned (t b))∧w=w'
def zlF (w:World) (e:Ending) (w':World):Prop:=(∃ b,e = .returned (t b))∧Below w.heap.size w w'
theorem zfa (n:Int) (w:World):Calls E 189 #[g .i32 n] w (zl2 w):=by
 go_enter Tryz.func189,Tryz.ntmps189;go_wp2
 all_goals
  go_ret
  exact ⟨⟨_,rfl⟩,rfl⟩
theorem zfM (n:Int) (w:World):Calls E 190 #[g .i32 n] w (zl2 w):=by
 go_enter Tryz.func190,Tryz.ntmps190;go_wp2_with fail
 refine (zfa n w).mono ?_
 rintro e w1 ⟨⟨b,rfl⟩,rfl⟩
 go_wp2
 all_goals
  go_ret
  exact ⟨⟨_,rfl⟩,rfl⟩
theorem zjk (s:ByteArray) (h:Wt s) (w:World):Calls E 184 #[D s] w (zlF w):=by
 have hasc:∀ i (hi:i<s.size),(s[i]'hi).toNat<128:=fun i hi=>h.2 i (s[i]'hi) (Array.getElem?_eq_getElem hi)
 have hsz:=h.1;clear h;go_enter Tryz.func184,Tryz.ntmps184;go_wp2
 go_loopw [4] (fun _ wr=>∃ pos:Nat,pos≤s.size∧wr=w.iter s pos) (fun _ wr=>s.size-wr.iterPos w.heap.size)
 case atStart=>exact ⟨0,F _,rfl⟩
 case round =>
  obtain ⟨pos,hps,rfl⟩:=hrel;have hmu:(w.iter s pos).iterPos w.heap.size=pos:=iterPos_of (World.iter_heap w s pos);have hbel:Below w.heap.size w (w.iter s pos):=zaa w _
  by_cases hp:pos<s.size
  · have h128:=hasc pos hp
    have hnx:∀ ty,(Instr.next (.pointer (some ⟨w.heap.size,0,f⟩)) true ty).run E (w.iter s pos)=_:=fun ty=>run_next_ascii w s pos ty hp h128
    have hmu1:(w.iter s (pos+1)).iterPos w.heap.size=pos+1:=iterPos_of (World.iter_heap w s (pos+1))
    have hb1:Below w.heap.size w (w.iter s (pos+1)):=zaa w _
    have hrel1:∃ p:Nat,p≤s.size∧w.iter s (pos+1)=w.iter s p:=⟨pos+1,by omega,rfl⟩
    have hlt:s.size-(w.iter s (pos+1)).iterPos w.heap.size<s.size-(w.iter s pos).iterPos w.heap.size:=by rw [hmu,hmu1];omega
    generalize ((s[pos]'hp).toNat:Int)=c at hnx
    have HR:=Hd hrel1
    have HLT:=Hd hlt
    have HB:=Hd hb1
    clear hmu hmu1 hrel1 hlt hb1 hbel
    generalize w.iter s (pos+1)=W1 at *
    go_wp2_with fail
    refine (zfM c W1).mono ?_
    rintro e w1 ⟨⟨b,rfl⟩,rfl⟩
    cases b
    · go_wp2
      go_ret
      exact ⟨⟨_,rfl⟩,HB.out⟩
    · go_wp2
      go_roundw
      case rel=>exact HR.out
      case measure=>exact HLT.out
  · have hnx:∀ ty,(Instr.next (.pointer (some ⟨w.heap.size,0,f⟩)) true ty).run E (w.iter s pos)=_:=fun ty=>run_next_end w s pos ty hp
    have HB:=Hd hbel
    clear hmu hbel
    generalize w.iter s pos=W1 at *
    go_wp2
    all_goals
     go_ret
     exact ⟨⟨_,rfl⟩,HB.out⟩
set_option maxHeartbeats 16000000
theorem zgJ (s:ByteArray) (h:Wt s) (w:World):Calls E 183 #[D s] w (zl2 w):=by
 have hsz:=h.1;clear h;go_enter Tryz.func183,Tryz.ntmps183;go_wp2
 go_loop [6] (fun i=>∃ k:Nat,k≤s.size∧i = g l k) (fun i=>s.size-(intOf i).toNat)
 case atStart=>exact ⟨0,F _,rfl⟩
 case round =>
  obtain ⟨k,hk,rfl⟩:=hrel
  by_cases hlt:k<s.size
  · go_wp2
    all_goals first
     | (go_round
        case rel=>exact ⟨k+1,by omega,by go_num⟩
        case measure=>simp [intOf];omega)
     | (go_ret
        exact ⟨⟨_,rfl⟩,rfl⟩)
     | (exfalso;omega)
  · go_wp2
    go_ret
    exact ⟨⟨_,rfl⟩,rfl⟩
theorem zhE (s:ByteArray) (q:Bool) (h:Wt s) (w:World):Calls E 182 #[.agg #[D s,t q]] w (zlF w):=by
 have hsz:=h.1;have hb:=zaa w (C #[D s,t q] 217);have q0:(w.alloc (C #[D s,t q] 217)).cell? ⟨w.heap.size,0,f⟩=some (D s):=by simp
 have q1:(w.alloc (C #[D s,t q] 217)).cell? ⟨w.heap.size,1,f⟩=some (t q):=by simp
 have HB:=Hd hb;clear h hb;go_enter Tryz.func182,Tryz.ntmps182;go_upto_region 1 with fail
 generalize w.alloc (C #[D s,t q] 217)=W0 at *
 rcases Nat.eq_zero_or_pos s.size with z | z
 · have e:s=⟨#[]⟩:=by cases s with | mk d=>have:d = #[]:=Array.eq_empty_of_size_eq_zero z;rw [this]
   subst e
   cases q
   all_goals
    go_wp2
    go_ret
    exact ⟨⟨_,rfl⟩,HB.out⟩
 · cases q
   all_goals
    go_wp2_with (first | (go_at_call 189;refine (zfa _ _).mono ?_;rintro e w1 ⟨⟨b,rfl⟩,rfl⟩))
    all_goals
     go_ret
     exact ⟨⟨_,rfl⟩,HB.out⟩
theorem zgi {w a b:World} (h:Below w.heap.size w a) (k:Below a.heap.size a b):Below w.heap.size w b:=h.trans (k.mono h.size)
def SomeI (w:World) (e:Ending) (w':World):Prop:=(∃ n:Int,e = .returned (g l n))∧Below w.heap.size w w'
def CntI (n:Nat) (w:World) (i:Value) (wr:World):Prop:=∃ k:Nat,k≤n∧i = g l (k:Int)∧Below w.heap.size w wr
theorem zfz (d:Nat) (S:Nat→Prop) (cs:List Value) (w:World) (h:ItC d w S cs ()) (hS:∀ b,S b→b<w.heap.size):Calls E 150 #[.agg cs.toArray] w (SomeI w):=by
 cases d with
 | zero=>exact h.elim
 | succ d =>
 obtain ⟨A,c,q,A',n',c',ws,rfl,⟨hn1,hn2⟩,-,hr,-,-⟩:=h;have hb:=zaa w (C #[g l 0,m A ws.length c,t q,m A' n' c'] 211);have R:w.heap.size<(w.alloc (C #[g l 0,m A ws.length c,t q,m A' n' c'] 211)).heap.size:=by simp
 have q1:(w.alloc (C #[g l 0,m A ws.length c,t q,m A' n' c'] 211)).cell? ⟨w.heap.size,1,f⟩=some (m A ws.length c):=by simp
 have q2:(w.alloc (C #[g l 0,m A ws.length c,t q,m A' n' c'] 211)).cell? ⟨w.heap.size,2,f⟩=some (t q):=by simp
 have q3:(w.alloc (C #[g l 0,m A ws.length c,t q,m A' n' c'] 211)).cell? ⟨w.heap.size,3,f⟩=some (m A' n' c'):=by simp
 obtain ⟨b,o,cs0,x,rfl,hSb,hx,-,⟨rfl,hwt⟩,hat⟩:=hr.at_ (k:=0) (by omega);have hbw:b<w.heap.size:=hS b hSb;have c0:(w.alloc (C #[g l 0,m (some ⟨b,o,f⟩) ws.length c,t q,m A' n' c'] 211)).cell? ⟨b,o,f⟩=some (D x.1):=(hb.cell (p:=⟨b,o,f⟩) hbw).trans (by simpa using hat 0 _ rfl);have c1:(w.alloc (C #[g l 0,m (some ⟨b,o,f⟩) ws.length c,t q,m A' n' c'] 211)).cell? ⟨b,o+1,f⟩=some (t x.2):=(hb.cell (p:=⟨b,o+1,f⟩) hbw).trans (by simpa using hat 1 _ rfl);have d0:((ws.length:Int) == 0)=false:=by rw [beq_eq_false_iff_ne];omega
 have hi0:(0:Int)<(ws.length:Int):=by omega
 have HR:=Hd hr;have HB:=Hd hb;have HW:=Hd hwt;clear hr hb hat hx hwt;go_enter Tryz.func150,Tryz.ntmps150;go_upto_region 1 with fail
 generalize w.alloc (C #[g l 0,m (some ⟨b,o,f⟩) ws.length c,t q,m A' n' c'] 211)=W0 at *;go_wp2_with fail
 refine (zhE x.1 x.2 HW.out W0).mono ?_
 rintro e w1 ⟨⟨ob,rfl⟩,hb1⟩
 have HB1:=Hd (zgi HB.out hb1);obtain ⟨p1,p2,p3⟩:=kb3 hb1 R ⟨q1,q2,q3⟩;have R1:w.heap.size<w1.heap.size:=Nat.lt_of_lt_of_le R hb1.size;clear hb1 q1 q2 q3 c0 c1
 cases ob
 · go_wp2
   go_ret
   exact ⟨⟨_,rfl⟩,HB1.out⟩
 · by_cases h40:(40:Int)<(ws.length:Int)
   · have e40:decide ((40:Int)<(ws.length:Int))=true:=by simpa using h40
     go_wp2
     go_ret
     exact ⟨⟨_,rfl⟩,HB1.out⟩
   · have e40:decide ((40:Int)<(ws.length:Int))=false:=by simpa using h40
     go_wp2
     have HP2:=Hd p2
     have HP3:=Hd p3
     clear p1 p2 p3
     go_loopw [24] (CntI ws.length w1) (fun i _=>ws.length-(intOf i).toNat)
     case atStart=>exact ⟨0,F _,rfl,Below.refl _ _⟩
     case round =>
      obtain ⟨k,hk,rfl,hbel⟩:=hrel
      have HBK:=Hd hbel
      have HBL:=Hd (zgi HB1.out hbel)
      have hws:=HBL.out.size
      have hwk:=hbel.size
      clear hbel
      by_cases hlt:k<ws.length
      · obtain ⟨b2,o2,cs2,y,hA2,hSb2,hy,-,⟨rfl,hyt⟩,hat2⟩:=HR.out.at_ hlt
        cases hA2
        have e1:wr.cell? ⟨b,o+k*2,f⟩=some (D y.1):=(HBL.out.cell (p:=⟨b,o+k*2,f⟩) hbw).trans (by simpa using hat2 0 _ rfl)
        have e2:wr.cell? ⟨b,o+k*2+1,f⟩=some (t y.2):=(HBL.out.cell (p:=⟨b,o+k*2+1,f⟩) hbw).trans (by simpa using hat2 1 _ rfl)
        have hki:(k:Int)<(ws.length:Int):=by omega
        have hk0:(0:Int)≤(k:Int):=by omega
        have hbl:b<wr.heap.size:=by omega
        have hbx:=zaa wr (C #[D y.1,t y.2] 217)
        have HBX:=Hd (HBL.out.trans (hbx.mono hws))
        have HBY:=Hd (HBK.out.trans (hbx.mono hwk))
        have f1:(wr.alloc (C #[D y.1,t y.2] 217)).cell? ⟨wr.heap.size,0,f⟩=some (D y.1):=by simp
        have f2:(wr.alloc (C #[D y.1,t y.2] 217)).cell? ⟨wr.heap.size,1,f⟩=some (t y.2):=by simp
        have g1:wr.heap.size<(wr.alloc (C #[D y.1,t y.2] 217)).heap.size:=by simp
        have d120:decide ((120:Int)<(y.1.size:Int))=false:=by have:=hyt.1;rw [decide_eq_false_iff_not];omega
        have hmx:y.1.size≤maxLen:=by have:=hyt.1;unfold maxLen;omega
        have HY:=Hd hyt
        clear hyt hat2 hy hbx
        go_upto_region 8 with fail
        clear e1 e2
        generalize wr.alloc (C #[D y.1,t y.2] 217)=W4 at *
        generalize hq:y.2=yq at f2
        clear hq
        cases yq
        · go_wp2_with fail
          refine (zjk y.1 HY.out W4).mono ?_
          rintro e w5 ⟨⟨pb,rfl⟩,hb5⟩
          have HB5:=Hd (HBX.out.trans (hb5.mono HBX.out.size))
          have HB6:=Hd (HBY.out.trans (hb5.mono HBY.out.size))
          clear hb5
          cases pb
          · go_wp2
            go_ret
            exact ⟨⟨_,rfl⟩,HB5.out⟩
          · go_wp2
            go_roundw
            case rel=>exact ⟨k+1,by omega,by go_num,HB6.out⟩
            case measure=>simp [intOf];omega
        · go_wp2_with fail
          refine (zgJ y.1 HY.out W4).mono ?_
          rintro e w5 ⟨⟨pb,rfl⟩,rfl⟩
          cases pb
          · go_wp2
            go_ret
            exact ⟨⟨_,rfl⟩,HBX.out⟩
          · go_wp2
            go_roundw
            case rel=>exact ⟨k+1,by omega,by go_num,HBY.out⟩
            case measure=>simp [intOf];omega
      · have p2:=(HBK.out.cell (p:=⟨w.heap.size,2,f⟩) R1).trans HP2.out
        have p3:=(HBK.out.cell (p:=⟨w.heap.size,3,f⟩) R1).trans HP3.out
        cases q
        all_goals
         go_wp2
         all_goals
          go_ret
          exact ⟨⟨_,rfl⟩,HBL.out⟩
def ckF (gc gk:Nat):Value := .func (.func 149) #[] #[.pointer (some ⟨gc,0,f⟩),.pointer (some ⟨gk,0,f⟩)]
def RetCk (gc:Nat) (w:World) (e:Ending) (w':World):Prop:=
 ∃ r n:Int,e = .returned (g l r)∧Row w' gc 3 [g l n]∧(r=0→0≤n∧n≤600)∧KB (fun b=>b=gc) w w'
def zji (d:Nat):Prop:=∀ (A:Option Addr) (n c gc gk:Nat) (cnt dep:Int) (S:Nat→Prop) (w:World),Rw (ItC d) 4 w S A n (List.replicate n ())→n≤5000→(∀ b,S b→b<w.heap.size∧b≠gc)→Row w gc 3 [g l cnt]→(0≤cnt∧cnt≤600)→(0≤dep∧dep≤5) →
 w.cell? ⟨gk,0,f⟩=some (ckF gc gk)→gk<w.heap.size→gk≠gc →
 Calls E 149 #[m A n c,g l dep,.pointer (some ⟨gc,0,f⟩),.pointer (some ⟨gk,0,f⟩)] w (RetCk gc w)
def CkR (n gc:Nat) (w:World) (i:Value) (wr:World):Prop:=∃ (k:Nat) (cnt:Int),k≤n∧i = g l (k:Int)∧Row wr gc 3 [g l cnt]∧(0≤cnt∧cnt≤600)∧KB (fun b=>b=gc) w wr
theorem zjB (d:Nat) (IH:∀ d',d=d'+1→zji d'):zji d:=by
 intro A n c gc gk cnt dep S w h hn hS R hc hdep hk hgk hne;have HR:=Hd R;have HK:=Hd hk;have HN:=Hd h;have hgl:=R.lt;clear R hk h;go_enter Tryz.func149,Tryz.ntmps149;go_wp2
 go_loopw [13] (CkR n gc w) (fun i _=>n-(intOf i).toNat)
 case atStart=>exact ⟨0,cnt,F _,rfl,HR.out,hc,KB.refl _ _⟩
 case round =>
  clear HR hc;obtain ⟨k,cnt,hkn,rfl,hr,⟨hc0,hc1⟩,hkb⟩:=hrel;have HKB:=Hd hkb;have hws:=hkb.size
  by_cases hlt:k<n
  · obtain ⟨b,o,cs,u,rfl,hSb,-,-,hit,hat⟩:=HN.out.at_ hlt
    cases d with
    | zero=>exact hit.elim
    | succ d =>
    have hit':=hit
    obtain ⟨A1,c1,q,A2,n2,c2,ws,rfl,-,-,-,⟨hn2,hm2,hk2⟩,hkids⟩:=hit'
    have hbw:=(hS b hSb).1
    have hbg:=(hS b hSb).2
    have hcell:∀ j v,[g l 0,m A1 ws.length c1,t q,m A2 n2 c2][j]? = some v→wr.cell? ⟨b,o+k*4+j,f⟩=some v:=fun j v hv=>(hkb.cell hbw (fun z=>hbg z)).trans (hat j v hv)
    have e0:wr.cell? ⟨b,o+k*4,f⟩=some (g l 0):=hcell 0 _ rfl
    have e1:=hcell 1 _ rfl
    have e2:=hcell 2 _ rfl
    have e3:=hcell 3 _ rfl
    have hki:(k:Int)<(n:Int):=by omega
    have hk0:(0:Int)≤(k:Int):=by omega
    have hbl:b<wr.heap.size:=by omega
    have hgw:gc<wr.heap.size:=by omega
    have hbx:=zaa wr (C #[g l 0,m A1 ws.length c1,t q,m A2 n2 c2] 211)
    have R8:Row (wr.alloc (C #[g l 0,m A1 ws.length c1,t q,m A2 n2 c2] 211)) wr.heap.size 211 [g l 0,m A1 ws.length c1,t q,m A2 n2 c2]:=Row.new _ [g l 0,m A1 ws.length c1,t q,m A2 n2 c2] rfl
    have Rc:Row (wr.alloc (C #[g l 0,m A1 ws.length c1,t q,m A2 n2 c2] 211)) gc 3 [g l cnt]:=hr.below hbx hgw
    have K4:KB (fun b=>b=gc) w (wr.alloc (C #[g l 0,m A1 ws.length c1,t q,m A2 n2 c2] 211)):=hkb.alloc _
    have g8:wr.heap.size≠gc:=by omega
    have g8':=g8.symm
    have HIT:=Hd hit
    have HKD:=Hd hkids
    clear hit hkids hat hcell hr hkb hbx
    go_upto_region 4 with fail
    clear e0 e1 e2 e3
    generalize wr.alloc (C #[g l 0,m A1 ws.length c1,t q,m A2 n2 c2] 211)=w4 at *
    have p0:=Row.cell (k:=0) (v := g l cnt) Rc rfl;have pf:=Row.free Rc 0
    have R5:Row (w4.setCell ⟨gc,0,f⟩ (g l (cnt+1))) gc 3 [g l (cnt+1)]:=Rc.set (i:=0)
    have R85:Row (w4.setCell ⟨gc,0,f⟩ (g l (cnt+1))) wr.heap.size 211 [g l 0,m A1 ws.length c1,t q,m A2 n2 c2]:=(heap_setCell_other w4 ⟨gc,0,f⟩ wr.heap.size _ g8).trans R8
    have K5:KB (fun b=>b=gc) w (w4.setCell ⟨gc,0,f⟩ (g l (cnt+1))):=K4.set 0 _ rfl
    clear R8 K4
    go_upto_region 5 with fail
    clear p0 pf Rc
    generalize w4.setCell ⟨gc,0,f⟩ (g l (cnt+1))=w5 at *
    have p0:=Row.cell (k:=0) (v := g l (cnt+1)) R5 rfl
    obtain ⟨t0,t1,t2,t3⟩:=kr4 R85
    have t8:=R85.lt
    have HR5:=Hd R5
    have HK5:=Hd K5
    clear R5 K5 R85
    by_cases h6:(600:Int)<cnt+1
    · have d6:decide ((600:Int)<cnt+1)=true:=by simpa using h6
      go_wp2
      go_ret
      exact ⟨3,cnt+1,rfl,HR5.out,fun z=>absurd z (by decide),HK5.out⟩
    have d6:decide ((600:Int)<cnt+1)=false:=by simpa using h6
    by_cases h4:(4:Int)<dep
    · have d4:decide ((4:Int)<dep)=true:=by simpa using h4
      go_wp2
      go_ret
      exact ⟨17,cnt+1,rfl,HR5.out,fun z=>absurd z (by decide),HK5.out⟩
    have d4:decide ((4:Int)<dep)=false:=by simpa using h4
    go_wp2_with fail
    have hko:KeepOn S w w5:=HK5.out.keep fun b hb=>hS b hb
    refine (zfz (d+1) S [g l 0,m A1 ws.length c1,t q,m A2 n2 c2] w5 (ItC.mono (d+1) _ _ _ _ _ _ (fun _ z=>z) hko HIT.out) (fun b hb=>by have:=(hS b hb).1;have:=HK5.out.size;omega)).mono ?_
    rintro e w6 ⟨⟨r1,rfl⟩,hb6⟩
    have HR6:=Hd (HR5.out.below hb6 HR5.out.lt)
    have HK6:=Hd (HK5.out.thenB hb6)
    have x3:=(hb6.cell (p:=⟨wr.heap.size,3,f⟩) t8).trans t3
    have xk:w6.cell? ⟨gk,0,f⟩=some (ckF gc gk):=(HK6.out.cell hgk hne).trans HK.out
    clear hko hb6 p0 t0 t1 t2 t3
    by_cases hr1:r1=0
    · have dr1:(r1 != 0)=false:=by rw [hr1];rfl
      clear hr1
      unfold ckF at xk
      go_wp2_with fail
      refine (IH d rfl A2 n2 c2 gc gk (cnt+1) (dep+1) S w6 (HKD.out.mono (ItC.mono d) (fun _ z=>z) (HK6.out.keep fun b hb=>hS b hb)) (by omega) (fun b hb=>⟨by have:=(hS b hb).1;have:=HK6.out.size;omega,(hS b hb).2⟩) HR6.out (by omega) (by omega) xk (by have:=HK6.out.size;omega) hne).mono ?_
      rintro e w7 ⟨r2,n7,rfl,hr7,h07,hkb7⟩
      have HR7:=Hd hr7
      have HK7:=Hd (HK6.out.trans hkb7)
      have H07:=Hd h07
      clear hr7 h07 hkb7
      by_cases hr2:r2=0
      · have dr2:(r2 != 0)=false:=by rw [hr2];rfl
        have h7:=H07.out hr2
        clear hr2
        go_wp2
        go_roundw
        case rel=>exact ⟨k+1,n7,by omega,by go_num,HR7.out,h7,HK7.out⟩
        case measure=>simp [intOf];omega
      · have dr2:(r2 != 0)=true:=by rw [bne_iff_ne];exact hr2
        go_wp2
        go_ret
        exact ⟨r2,n7,rfl,HR7.out,fun z=>absurd z hr2,HK7.out⟩
    · have dr1:(r1 != 0)=true:=by rw [bne_iff_ne];exact hr1
      go_wp2
      go_ret
      exact ⟨r1,cnt+1,rfl,HR6.out,fun z=>absurd z hr1,HK6.out⟩
  · obtain rfl:k=n:=by omega
    go_wp2
    go_ret
    exact ⟨0,cnt,rfl,hr,fun _=>⟨hc0,hc1⟩,HKB.out⟩
theorem zlH:∀ d,zji d
 | 0=>zjB 0 (fun d' h=>by omega)
 | d+1=>zjB (d+1) (fun d' h=>by obtain rfl:d=d':=by omega
                                exact zlH d)
theorem zhb (d:Nat) (S:Nat→Prop) (A:Option Addr) (n c:Nat) (w:World) (h:Rw (ItC d) 4 w S A n (List.replicate n ())) (hn:n≤5000) (hS:∀ b,S b→b<w.heap.size):Calls E 112 #[m A n c] w (SomeI w):=by
 have hb:Below w.heap.size w ((w.alloc (C #[g l 0] 3)).alloc (C #[(Value.func (.func 149) #[] #[.pointer (some ⟨w.heap.size,0,f⟩),.pointer (some ⟨w.heap.size+1,0,f⟩)])] 242)):=(zaa w _).alloc (by simp) _;have R0:Row ((w.alloc (C #[g l 0] 3)).alloc (C #[(Value.func (.func 149) #[] #[.pointer (some ⟨w.heap.size,0,f⟩),.pointer (some ⟨w.heap.size+1,0,f⟩)])] 242)) w.heap.size 3 [g l 0]:=(Row.new w.heap.size [g l 0] rfl).below (zaa _ _) (by simp);have hgk:(((w.alloc (C #[g l 0] 3)).alloc (C #[(Value.func (.func 149) #[] #[.pointer (some ⟨w.heap.size,0,f⟩),.pointer (some ⟨w.heap.size+1,0,f⟩)])] 242))).cell? ⟨w.heap.size+1,0,f⟩=some (ckF w.heap.size (w.heap.size+1)):=by simp [ckF]
 have hsz:w.heap.size+1<(((w.alloc (C #[g l 0] 3)).alloc (C #[(Value.func (.func 149) #[] #[.pointer (some ⟨w.heap.size,0,f⟩),.pointer (some ⟨w.heap.size+1,0,f⟩)])] 242))).heap.size:=by simp
 have HC:=Hd (zlH d A n c w.heap.size (w.heap.size+1) 0 0 S ((w.alloc (C #[g l 0] 3)).alloc (C #[(Value.func (.func 149) #[] #[.pointer (some ⟨w.heap.size,0,f⟩),.pointer (some ⟨w.heap.size+1,0,f⟩)])] 242)) (h.mono (ItC.mono d) (fun _ z=>z) (zbc hb hS)) hn (fun b z=>⟨by have:=hS b z;omega,by have:=hS b z;omega⟩) R0 (by omega) (by omega) hgk hsz (by omega));have HB:=Hd hb;clear h R0 hb;unfold ckF at hgk;go_enter Tryz.func112,Tryz.ntmps112;go_upto_region 4 with fail
 generalize ((w.alloc (C #[g l 0] 3)).alloc (C #[(Value.func (.func 149) #[] #[.pointer (some ⟨w.heap.size,0,f⟩),.pointer (some ⟨w.heap.size+1,0,f⟩)])] 242))=W0 at *;go_wp2_with fail
 refine HC.out.mono ?_
 rintro e w1 ⟨r,n1,rfl,-,-,hkb⟩
 have HB1:=Hd (HB.out.trans (hkb.below (B:=w.heap.size) HB.out.size (fun b z=>by omega)));clear hkb;go_wp2;go_ret
 exact ⟨⟨r,rfl⟩,HB1.out⟩
end Go.Proofs.YtjkimieapfbhbaaGreatDoor
