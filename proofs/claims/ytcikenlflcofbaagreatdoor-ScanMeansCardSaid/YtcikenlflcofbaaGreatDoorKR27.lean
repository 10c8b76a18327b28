/-
  Small functions of the reference on operations and names.
-/
import Derived.Test.YtcikenlflcofbaaGreatDoorWN
import Derived.Deep.LoopGhost
import Derived.Test.YtcikenlflcofbaaGreatDoorKVfH
set_option maxRecDepth 100000
set_option maxHeartbeats 8000000
namespace Go.Proofs.YtcikenlflcofbaaGreatDoor
open Go.RowKit
theorem zb5 (op:Int) (w:World):Calls Tryz.prog 64 #[.int .i64 op] w (zdI (zav op) w):=by
  by_cases hr:1≤op∧op≤22
  · have hop:op=1∨op=2∨op=3∨op=4∨op=5∨op=6∨op=7∨op=8∨op=9∨op=10∨op=11∨op=12∨op=13∨op=14∨op=15∨op=16∨op=17∨op=18∨op=19∨op=20∨op=21∨op=22:=by omega
    clear hr
    rcases hop with rfl | rfl | rfl | rfl | rfl | rfl | rfl | rfl | rfl | rfl | rfl | rfl | rfl | rfl | rfl | rfl | rfl | rfl | rfl | rfl | rfl | rfl
    all_goals
      go_enter Tryz.func64,Tryz.ntmps64
      go_wp2
      go_ret
      exact ⟨rfl,rfl⟩
  · have ha:zav op = -1:=by unfold zav;rw [if_neg (by omega),if_neg (by omega),if_neg (by omega),if_neg (by omega)]
    have HA:=Hi ha
    clear ha
    rcases (by omega:op<1∨22<op) with h | h
    all_goals
      clear hr
      go_enter Tryz.func64,Tryz.ntmps64
      go_wp2
      go_ret
      exact ⟨zbs HA.out.symm,rfl⟩
theorem zbo (c:UInt8) (w:World):Calls Tryz.prog 39 #[.int .u8 c.toNat] w (zex (zaH c) w):=by
  by_cases i0:c.toNat≤64
  · have hlo:0≤c.toNat:=by omega
    have HB:=Hi (show zaH c=false by rw [zax];simp;omega)
    have b2:(c.toNat:Int)≤64:=by omega
    clear hlo i0
    go_enter Tryz.func39,Tryz.ntmps39
    go_wp2
    go_ret
    exact ⟨zae (by rw [HB.out] <;> simp <;> omega),rfl⟩
  by_cases i1:c.toNat≤90
  · have hlo:65≤c.toNat:=by omega
    have HB:=Hi (show zaH c=true by rw [zax];simp;omega)
    have b1:(65:Int)≤(c.toNat:Int):=by omega
    have b2:(c.toNat:Int)≤90:=by omega
    clear hlo i0 i1
    go_enter Tryz.func39,Tryz.ntmps39
    go_wp2
    go_ret
    exact ⟨zae (by rw [HB.out] <;> simp <;> omega),rfl⟩
  by_cases i2:c.toNat≤96
  · have hlo:91≤c.toNat:=by omega
    have HB:=Hi (show zaH c=false by rw [zax];simp;omega)
    have b1:(91:Int)≤(c.toNat:Int):=by omega
    have b2:(c.toNat:Int)≤96:=by omega
    clear hlo i0 i1 i2
    go_enter Tryz.func39,Tryz.ntmps39
    go_wp2
    go_ret
    exact ⟨zae (by rw [HB.out] <;> simp <;> omega),rfl⟩
  by_cases i3:c.toNat≤122
  · have hlo:97≤c.toNat:=by omega
    have HB:=Hi (show zaH c=true by rw [zax];simp;omega)
    have b1:(97:Int)≤(c.toNat:Int):=by omega
    have b2:(c.toNat:Int)≤122:=by omega
    clear hlo i0 i1 i2 i3
    go_enter Tryz.func39,Tryz.ntmps39
    go_wp2
    go_ret
    exact ⟨zae (by rw [HB.out] <;> simp <;> omega),rfl⟩
  have hlo:123≤c.toNat:=by omega
  have HB:=Hi (show zaH c=false by rw [zax];simp;omega);have b1:(123:Int)≤(c.toNat:Int):=by omega
  clear hlo i0 i1 i2 i3;go_enter Tryz.func39,Tryz.ntmps39;go_wp2;go_ret
  exact ⟨zae (by rw [HB.out] <;> simp <;> omega),rfl⟩
theorem zaP (c:UInt8) (w:World):Calls Tryz.prog 41 #[.int .u8 c.toNat] w (zex (zaq c) w):=by
  by_cases i0:c.toNat≤47
  · have hlo:0≤c.toNat:=by omega
    have HB:=Hi (show zaq c=false by rw [zbi];simp;omega)
    have b2:(c.toNat:Int)≤47:=by omega
    clear hlo i0
    go_enter Tryz.func41,Tryz.ntmps41
    go_wp2
    go_ret
    exact ⟨zae (by rw [HB.out] <;> simp <;> omega),rfl⟩
  by_cases i1:c.toNat≤57
  · have hlo:48≤c.toNat:=by omega
    have HB:=Hi (show zaq c=true by rw [zbi];simp;omega)
    have b1:(48:Int)≤(c.toNat:Int):=by omega
    have b2:(c.toNat:Int)≤57:=by omega
    clear hlo i0 i1
    go_enter Tryz.func41,Tryz.ntmps41
    go_wp2
    go_ret
    exact ⟨zae (by rw [HB.out] <;> simp <;> omega),rfl⟩
  have hlo:58≤c.toNat:=by omega
  have HB:=Hi (show zaq c=false by rw [zbi];simp;omega);have b1:(58:Int)≤(c.toNat:Int):=by omega
  clear hlo i0 i1;go_enter Tryz.func41,Tryz.ntmps41;go_wp2;go_ret
  exact ⟨zae (by rw [HB.out] <;> simp <;> omega),rfl⟩
def zeI:List Int:=[0,0,4,5,6,7,13,14,15,16,17,18,19,20,21,22]
def ze7:List Value:=zaJ.map fun l=>Value.string ⟨l.toArray⟩
def ze8:List Value:=zeI.map fun n=>Value.int .i64 n
structure WordsAt (w:World) (b c:Nat):Prop where
  words:w.heap[b]? = some (.cells ze7.toArray 9 (0,0))
  ops:w.heap[c]? = some (.cells ze8.toArray 3 (0,0))
theorem WordsAt.word {w:World} {b c:Nat} (h:WordsAt w b c) {k:Nat} (hk:k<16):w.cell? ⟨b,k,none⟩=some (.string ⟨(zaJ.getD k []).toArray⟩):=by
  rw [cell_of_row w b k _ _ (0,0) h.words];have:k<zaJ.length:=hk;simp [ze7,List.getD_eq_getElem?_getD,this]
theorem WordsAt.op {w:World} {b c:Nat} (h:WordsAt w b c) {k:Nat} (hk:k<16):w.cell? ⟨c,k,none⟩=some (.int .i64 (zeI.getD k 0)):=by
  rw [cell_of_row w c k _ _ (0,0) h.ops];have:k<zeI.length:=hk;simp [ze8,List.getD_eq_getElem?_getD,this]
def zjK (w:World) (e:Ending) (w':World):Prop:=∃ b c,e = .returned (.tuple #[.slice (some ⟨b,0,none⟩) 16 16,.slice (some ⟨c,0,none⟩) 16 16])∧WordsAt w' b c∧Below w.heap.size w w'
theorem zeL (w:World):Calls Tryz.prog 65 #[] w (zjK w):=by
  go_enter Tryz.func65,Tryz.ntmps65;go_wp2;refine bodyPost_ret (v := .tuple #[.slice (some ⟨w.heap.size,0,none⟩) 16 16,.slice (some ⟨w.heap.size+1,0,none⟩) 16 16]) (by simp [results,Tryz.results65,go_sem]) rfl ⟨_,_,rfl,⟨?_,?_⟩,?_⟩
  · exact (Below.heap_alloc _ _ _ (by rw [World.size_alloc];omega)).trans (heap_alloc_new w _)
  · have h:=heap_alloc_new (w.alloc (.cells ze7.toArray 9)) (.cells ze8.toArray 3)
    rw [World.size_alloc] at h
    exact h
  · exact ((Below.refl _ w).alloc (Nat.le_refl _) _).alloc (by rw [World.size_alloc];omega) _
def RsR (W0:World) (s:List UInt8) (g:Nat) (v:Value) (wr:World):Prop:=∃ k:Nat,k≤16∧16-k<g∧v = .int .i64 (k:Int)∧(∀ j,j<k→(zaJ.getD j [] == s)=false)∧wr=W0
theorem res_of {s:List UInt8} {k:Nat} (hk:k<16) (h:(zaJ.getD k [] == s)=true):zaC s=true:=by
  have hl:k<zaJ.length:=hk;unfold zaC;rw [List.contains_iff_mem];have:=eq_of_beq h;rw [← this,List.getD_eq_getElem?_getD,List.getElem?_eq_getElem hl];exact List.getElem_mem hl
theorem zko {s:List UInt8} (h:∀ j,j<16→(zaJ.getD j [] == s)=false):zaC s=false:=by
  unfold zaC;rw [Bool.eq_false_iff];intro q;rw [List.contains_iff_mem] at q;obtain ⟨j,hj,he⟩:=List.getElem_of_mem q;have:=h j hj;rw [List.getD_eq_getElem?_getD,List.getElem?_eq_getElem hj,Option.getD_some,he] at this;simp at this
theorem zcg (s:List UInt8) (w:World):Calls Tryz.prog 40 #[.string ⟨s.toArray⟩] w (zgl (zaC s) w):=by
  go_enter Tryz.func40,Tryz.ntmps40;go_wp2_with fail
  refine (zeL w).mono ?_
  rintro e w1 ⟨b,c,rfl,hW,hb1⟩
  have HW:=Hi hW;have HB:=Hi hb1;clear hW hb1;go_wp2;go_loopg [13] 17 (fun g v wr=>RsR w1 s g v wr)
  case atStart=>exact ⟨0,by omega,by omega,rfl,fun j h=>absurd h (Nat.not_lt_zero _),rfl⟩
  case round =>
    obtain ⟨k,hk,hg,rfl,hall,rfl⟩:=hrel;have HALL:=Hi hall;clear hall
    by_cases hlt:k<16
    · have hc:=HW.out.word hlt
      obtain ⟨x,hx⟩:∃ x,zaJ.getD k []=x:=⟨_,rfl⟩
      rw [hx] at hc
      have HX:=Hi hx
      clear hx
      cases hb:(x == s) with
      | true =>
        have HF:=Hi (res_of hlt (by rw [HX.out];exact hb))
        go_wp2
        go_ret
        exact ⟨zae HF.out.symm,HB.out⟩
      | false =>
        have HF:=Hi hb
        go_wp2
        go_roundg (16-k)
        case measure=>omega
        case rel=>exact ⟨k+1,by omega,by omega,by go_num,fun j hj=>by rcases Nat.lt_succ_iff_lt_or_eq.1 hj with q | rfl;exact HALL.out j q;rw [HX.out];exact HF.out,rfl⟩
    · obtain rfl:k=16:=by omega
      have HF:=Hi (zko HALL.out)
      go_wp2
      go_ret
      exact ⟨zae HF.out.symm,HB.out⟩
def RnR (W0:World) (s:List UInt8) (g:Nat) (v:Value) (wr:World):Prop:=∃ k:Nat,k≤s.length∧s.length-k<g∧v = .int .i64 (k:Int)∧(∀ j c,j<k→s[j]? = some c→zbh c=true)∧wr=W0
theorem zj4 {s:List UInt8} {k:Nat} {c:UInt8} (hc:s[k]? = some c) (ho:zbh c=false):zbj s=false:=by
  have hl:okB k c=false:=by
    unfold okB
    split
    · unfold zbh at ho
      simp only [Bool.or_eq_false_iff] at ho
      exact ho.1.1
    · exact ho
  unfold zbj;rw [zaO hc hl]
  rfl
theorem zlv {s:List UInt8} (h0:¬ s=[]) (h1:¬ 12<s.length) (hl:∀ c,s[0]? = some c→zaH c=true) (hr:zaC s=false) (h:∀ j c,j<s.length→s[j]? = some c→zbh c=true):zbj s=true:=by
  unfold zbj
  rw [zf0 h0 h1 (fun j c hj hc=>by
    unfold okB
    split
    · next q=>subst q;exact hl c hc
    · exact h j c hj hc),hr]
  rfl
theorem zel (s:List UInt8) (w:World) (hs:s.length≤maxLen):Calls Tryz.prog 20 #[.string ⟨s.toArray⟩] w (zgl (zbj s) w):=by
  unfold maxLen at hs
  by_cases h0:s=[]
  · subst h0
    go_enter Tryz.func20,Tryz.ntmps20
    go_wp2
    go_ret
    exact ⟨rfl,Below.refl _ _⟩
  have hP:0<s.length:=List.length_pos_iff.2 h0;have hL1:¬ (s.length:Int)<1:=by omega
  have hL0:1≤s.length:=by omega
  by_cases h1:12<s.length
  · have e0:=Hi (show zbj s=false by unfold zbj;rw [zeh h1];rfl)
    clear h0
    go_enter Tryz.func20,Tryz.ntmps20
    go_wp2
    go_ret
    exact ⟨zae e0.out.symm,Below.refl _ _⟩
  have hL:¬ (12:Int)<(s.length:Int):=by omega
  obtain ⟨c0,hc0⟩:∃ c,s[0]=c:=⟨_,rfl⟩;have hc0':s[0]? = some c0:=by rw [List.getElem?_eq_getElem hP,hc0]
  have hkb0:({ data:=s.toArray }:ByteArray)[0]'(by show 0<s.toArray.size;simpa using hP)=c0:=hc0;have C0:=zbo c0 w
  cases hl0:zaH c0 with
  | false =>
    rw [hl0] at C0;have HC0:=Hi C0;have e0:=Hi (show zbj s=false by unfold zbj;rw [zaO hc0' (by unfold okB;rw [if_pos rfl];exact hl0)];rfl);clear C0 hl0 hc0 hc0' h0;go_enter Tryz.func20,Tryz.ntmps20;go_wp2_with fail
    refine HC0.out.mono ?_
    rintro e w1 ⟨rfl,rfl⟩
    go_wp2;go_ret
    exact ⟨zae e0.out.symm,Below.refl _ _⟩
  | true =>
  rw [hl0] at C0;have HC0:=Hi C0;have HL0:=Hi (show ∀ c,s[0]? = some c→zaH c=true from fun c hc=>by rw [hc0'] at hc;cases hc;exact hl0);have HNE:=Hi h0;clear C0 hl0 hc0 hc0' h0
  cases hr:zaC s with
  | true =>
    have C1:=zcg s w;rw [hr] at C1;have HC1:=Hi C1;have e0:=Hi (show zbj s=false by unfold zbj;rw [hr];simp);clear C1 hr;go_enter Tryz.func20,Tryz.ntmps20;go_wp2_with fail
    refine HC0.out.mono ?_
    rintro e w1 ⟨rfl,rfl⟩
    go_wp2_with fail
    refine HC1.out.mono ?_
    rintro e w1 ⟨rfl,hb1⟩
    go_wp2;go_ret
    exact ⟨zae e0.out.symm,hb1⟩
  | false =>
  have C1:=zcg s w;rw [hr] at C1;have HC1:=Hi C1;have HR:=Hi hr;clear C1 hr;go_enter Tryz.func20,Tryz.ntmps20;go_wp2_with fail
  refine HC0.out.mono ?_
  rintro e w1 ⟨rfl,rfl⟩
  go_wp2_with fail
  refine HC1.out.mono ?_
  rintro e w1 ⟨rfl,hb1⟩
  have HB:=Hi hb1;clear hb1 hkb0;go_wp2;go_loopg [3] (s.length+1) (fun g v wr=>RnR w1 s g v wr)
  case atStart=>exact ⟨0,Nat.zero_le _,by omega,rfl,fun j c h=>absurd h (Nat.not_lt_zero _),rfl⟩
  case round =>
    obtain ⟨k,hk,hg,rfl,hall,rfl⟩:=hrel;have HALL:=Hi hall;clear hall
    by_cases hlt:k<s.length
    · obtain ⟨c,hcc⟩:∃ c,s[k]=c:=⟨_,rfl⟩
      have hkb:({ data:=s.toArray }:ByteArray)[k]'(by show k<s.toArray.size;simpa using hlt)=c:=hcc
      have HC:=Hi (show s[k]? = some c by rw [List.getElem?_eq_getElem hlt,hcc])
      have L1:=fun W=>zbo c W
      have D1:=fun W=>zaP c W
      have hwb:zbh c=(zaH c || zaq c || c == 95):=rfl
      have h95:(c == 95)=((c.toNat:Int) == 95):=by
        rw [Bool.eq_iff_iff]
        simp [← UInt8.toNat_inj]
        omega
      rw [h95] at hwb
      generalize zaH c=lb at *
      generalize zaq c=db at *
      have HL1:=Hi L1
      have HD1:=Hi D1
      have HWB:=Hi hwb
      clear hcc L1 D1 hwb h95
      have hstep:zbh c=true→∀ j x,j<k+1→s[j]? = some x→zbh x=true:=by
        intro hw j x hj hx
        rcases Nat.lt_succ_iff_lt_or_eq.1 hj with q | rfl
        · exact HALL.out j x q hx
        · rw [HC.out] at hx;cases hx;exact hw
      have HS:=Hi hstep
      clear hstep
      cases lb with
      | true =>
        go_wp2_with fail
        refine (HL1.out _).mono ?_
        rintro e w5 ⟨rfl,rfl⟩
        go_wp2
        go_roundg (s.length-k)
        case measure=>omega
        case rel=>exact ⟨k+1,by omega,by omega,by go_num,HS.out (by rw [HWB.out];rfl),rfl⟩
      | false =>
      cases db with
      | true =>
        go_wp2_with fail
        refine (HL1.out _).mono ?_
        rintro e w5 ⟨rfl,rfl⟩
        go_wp2_with fail
        refine (HD1.out _).mono ?_
        rintro e w5 ⟨rfl,rfl⟩
        go_wp2
        go_roundg (s.length-k)
        case measure=>omega
        case rel=>exact ⟨k+1,by omega,by omega,by go_num,HS.out (by rw [HWB.out];rfl),rfl⟩
      | false =>
      cases hu:((c.toNat:Int) == 95) with
      | true =>
        have hu2:((c.toNat:Int) != 95)=false:=by simp only [bne,hu];rfl
        have HU:=Hi hu
        clear hu
        go_wp2_with fail
        refine (HL1.out _).mono ?_
        rintro e w5 ⟨rfl,rfl⟩
        go_wp2_with fail
        refine (HD1.out _).mono ?_
        rintro e w5 ⟨rfl,rfl⟩
        go_wp2
        go_roundg (s.length-k)
        case measure=>omega
        case rel=>exact ⟨k+1,by omega,by omega,by go_num,HS.out (by rw [HWB.out,HU.out];rfl),rfl⟩
      | false =>
        have hu2:((c.toNat:Int) != 95)=true:=by simp only [bne,hu];rfl
        have HU:=Hi hu
        clear hu
        have e0:=Hi (zj4 HC.out (by rw [HWB.out,HU.out];rfl))
        go_wp2_with fail
        refine (HL1.out _).mono ?_
        rintro e w5 ⟨rfl,rfl⟩
        go_wp2_with fail
        refine (HD1.out _).mono ?_
        rintro e w5 ⟨rfl,rfl⟩
        go_wp2
        go_ret
        exact ⟨zae e0.out.symm,HB.out⟩
    · obtain rfl:k=s.length:=by omega
      have e0:=Hi (zlv HNE.out h1 HL0.out HR.out HALL.out)
      go_wp2
      go_ret
      exact ⟨zae e0.out.symm,HB.out⟩
end Go.Proofs.YtcikenlflcofbaaGreatDoor
set_option maxRecDepth 100000
set_option maxHeartbeats 8000000
namespace Go.Proofs.YtcikenlflcofbaaGreatDoor
open Go.RowKit
theorem zeF {op:Int} (h1:op≠30) (h2:op≠31) (h3:op≠32) (h4:op≠3):zav op=opnP op:=by
  unfold zav opnP
  repeat' split
  all_goals omega
theorem ze9 (op:Int) (w:World):Calls Tryz.prog 38 #[.int .i64 op] w (zdI (opnP op) w):=by
  by_cases h:op=30∨op=31∨op=32∨op=3
  · rcases h with rfl | rfl | rfl | rfl
    all_goals
      go_enter Tryz.func38,Tryz.ntmps38
      go_wp2
      go_ret
      exact ⟨rfl,rfl⟩
  have h30:(op == 30)=false:=by simp;omega
  have h31:(op == 31)=false:=by simp;omega
  have h32:(op == 32)=false:=by simp;omega
  have h3:(op == 3)=false:=by simp;omega
  have HA:=Hi (fun W=>zb5 op W);have HO:=Hi (zeF (op:=op) (by omega) (by omega) (by omega) (by omega));clear h;go_enter Tryz.func38,Tryz.ntmps38;go_wp2_with fail
  refine (HA.out _).mono ?_
  rintro e w5 ⟨rfl,rfl⟩
  go_wp2;go_ret
  exact ⟨zbs HO.out,rfl⟩
theorem zhe (op:Int) (w:World):Calls Tryz.prog 32 #[.int .i64 op] w (zex (zaG op) w):=by
  rcases (show op<17∨(17≤op∧op≤22)∨(17≤op∧22<op) by omega) with h | ⟨h,h'⟩ | ⟨h,h'⟩
  · have HE:=Hi (show false=zaG op by unfold zaG;simp;omega)
    have hd:decide (17≤op)=false:=by simp;omega
    go_enter Tryz.func32,Tryz.ntmps32
    go_wp2
    go_ret
    exact ⟨zae HE.out,rfl⟩
  · have HE:=Hi (show true=zaG op by unfold zaG;simp;omega)
    go_enter Tryz.func32,Tryz.ntmps32
    go_wp2
    go_ret
    exact ⟨zae HE.out,rfl⟩
  · have HE:=Hi (show false=zaG op by unfold zaG;simp;omega)
    have hd:decide (op≤22)=false:=by simp;omega
    go_enter Tryz.func32,Tryz.ntmps32
    go_wp2
    go_ret
    exact ⟨zae HE.out,rfl⟩
def idxG (s:List UInt8):List (List UInt8)→Int→Int
  | [],_ => -1
  | x::l,i=>if x=s then i else idxG s l (i+1)
theorem ziH (s x:List UInt8) (l:List (List UInt8)) (i:Int):idxG s (x::l) i=if x=s then i else idxG s l (i+1):=rfl
def IxR (W:World) (s:List UInt8) (l:List (List UInt8)) (g:Nat) (v:Value) (wr:World):Prop:=
  ∃ k:Nat,k≤l.length∧l.length-k<g∧v = .int .i64 (k:Int)∧idxG s (l.drop k) k=idxG s l 0∧Below W.heap.size W wr
theorem zeJ (A:Option Addr) (c:Nat) (l:List (List UInt8)) (s:List UInt8) (w:World) (hm:l.length≤maxLen) (hr:Rw NmC 1 w (Old w) A l.length l) :
    Calls Tryz.prog 52 #[.slice A l.length c,.string ⟨s.toArray⟩] w (RetIB (idxG s l 0) w):=by
  have HR:=Hi hr;unfold maxLen at hm;clear hr;go_enter Tryz.func52,Tryz.ntmps52;go_wp2;go_loopg [8] (l.length+1) (fun g v wr=>IxR w s l g v wr)
  case atStart=>exact ⟨0,Nat.zero_le _,by omega,rfl,by rw [List.drop_zero];rfl,Below.refl _ _⟩
  case round =>
    obtain ⟨k,hk,hgk,rfl,hix,hbel⟩:=hrel
    by_cases hlt:k<l.length
    case neg =>
      obtain rfl:k=l.length:=by omega
      rw [List.drop_length] at hix;have HIX:=Hi (show (-1:Int)=idxG s l 0 from hix);clear hix;go_wp2;go_ret
      exact ⟨zbs HIX.out,hbel⟩
    obtain ⟨b,o,x,hA,hSb,hx,hxl,y0⟩:=nmAt (HR.out.mono NmC.mono (fun _ q=>q) (zab hbel fun _ q=>q)) hlt;subst hA
    have hget:l[k]=x:=by
      rw [List.getElem?_eq_getElem hlt] at hx;injection hx
    rw [List.drop_eq_getElem_cons hlt,hget,ziH] at hix;have hbk:b<wr.heap.size:=Nat.lt_of_lt_of_le hSb hbel.size
    by_cases e:x=s
    · rw [if_pos e] at hix
      have HIX:=Hi hix
      have he:(x == s)=true:=by simpa using e
      have HBE:=Hi hbel
      clear hix e hx hget hSb hbel
      go_wp2
      go_ret
      exact ⟨zbs HIX.out,HBE.out⟩
    · rw [if_neg e] at hix
      have HIX:=Hi hix
      have he:(x == s)=false:=by simpa using e
      have HBE:=Hi hbel
      clear hix e hx hget hSb hbel
      go_wp2
      go_roundg (l.length-k)
      case measure=>omega
      case rel=>exact ⟨k+1,by omega,by omega,by go_num,HIX.out,HBE.out⟩
def InR (W:World) (ins:List Sg) (g:Nat) (v3 v8:Value) (wr:World):Prop:=
  ∃ k:Nat,k≤ins.length∧ins.length-k<g∧v8 = .int .i64 (k:Int)∧wr.ownsRow W.heap.size 9 1 v3 k ((ins.take k).map fun s=>nmV s.nm)∧Below W.heap.size W wr
def RetIn (ins:List Sg) (w:World) (e:Ending) (w':World):Prop:=
  ∃ A c,e = .returned (.slice A ins.length c)∧ins.length≤c∧c≤maxLen∧w'.ownsRow w.heap.size 9 1 (.slice A ins.length c) ins.length (ins.map fun s=>nmV s.nm)∧Below w.heap.size w w'
theorem zgD (A:Option Addr) (c:Nat) (ins:List Sg) (w:World) (hm:ins.length≤100000) (hr:Rw SgC 2 w (Old w) A ins.length ins) :
    Calls Tryz.prog 53 #[.slice A ins.length c] w (RetIn ins w):=by
  have HR:=Hi hr;obtain ⟨ti,hti,hz0,hz1,hz2⟩:=info_parts zfK;clear hr;go_enter Tryz.func53,Tryz.ntmps53;go_wp2;go_loopg [3,8] (ins.length+1) (fun g v3 v8 wr=>InR w ins g v3 v8 wr)
  case atStart=>exact ⟨0,Nat.zero_le _,by omega,rfl,World.ownsRow_nil _ _ _ _,Below.refl _ _⟩
  case round =>
    obtain ⟨k,hk,hgk,rfl,hown,hbel⟩:=hrel;obtain ⟨A3,c3,rfl,hc3,hm3⟩:=zag hown
    by_cases hlt:k<ins.length
    case neg =>
      obtain rfl:k=ins.length:=by omega
      rw [List.take_length] at hown;have HRES:Hid (RetIn ins w (.returned (.slice A3 ins.length c3)) wr):=Hi ⟨A3,c3,rfl,hc3,hm3,hown,hbel⟩;clear hown hbel;go_wp2;go_ret
      exact HRES.out
    obtain ⟨b,o,x,hA,hSb,hx,hxl,-,y0,y1⟩:=sgAt (HR.out.mono SgC.mono (fun _ q=>q) (zab hbel fun _ q=>q)) hlt;subst hA;have hbk:b<wr.heap.size:=Nat.lt_of_lt_of_le hSb hbel.size;obtain ⟨nm,kd⟩:=x;dsimp only at hxl y0 y1;have HTK:=Hi (show (ins.take (k+1)).map (fun s=>nmV s.nm)=(ins.take k).map (fun s=>nmV s.nm)++[.string ⟨nm.toArray⟩] by rw [List.take_add_one,hx];simp);have HOW:=Hi ((hown.alloc (Obj.cells #[.string ⟨nm.toArray⟩,.int .i64 kd] 40)).alloc (Obj.cells #[.string ⟨nm.toArray⟩] 9));have hq:=hbel.alloc hbel.size (Obj.cells #[.string ⟨nm.toArray⟩,.int .i64 kd] 40);have HBQ:=Hi (hq.alloc hq.size (Obj.cells #[.string ⟨nm.toArray⟩] 9));have hsr:=zaL (wr.alloc (Obj.cells #[.string ⟨nm.toArray⟩,.int .i64 kd] 40)) [.string ⟨nm.toArray⟩] 9 1 1 rfl;rw [World.size_alloc] at hsr;have HSR:=Hi hsr;have hsz:=hbel.size;clear hown hbel hx hq hsr hSb;go_upto_region 5 with fail
    go_wp2_with (at_builtin;refine za4 (o:=⟨some 16,_,_,_,_,_⟩) (w:=(wr.alloc (Obj.cells #[.string ⟨nm.toArray⟩,.int .i64 kd] 40)).alloc (Obj.cells #[.string ⟨nm.toArray⟩] 9)) _ _ 31 rfl rfl Tryz.underlying31 hti hz0 hz1 hz2 rfl (by decide) rfl HOW.out HBQ.out rfl HSR.out (by intro u hu;rw [List.mem_singleton.1 hu];rfl) (by unfold maxLen;omega) (by omega) (by simp only [World.size_alloc];omega) ?_;intro v7 w7 hown7 hb7 hs7;have HO7:=Hi hown7;have HB7:=Hi hb7;clear hown7 hb7)
    go_roundg (ins.length-k)
    case measure=>omega
    case rel=>exact ⟨k+1,by omega,by omega,by go_num,by rw [HTK.out];exact HO7.out,HB7.out⟩
end Go.Proofs.YtcikenlflcofbaaGreatDoor
