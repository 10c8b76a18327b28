/-
  The reference's value of digits, its symbols and the operation of a word.
-/
import Derived.Test.YtcikenlflcofbaaGreatDoorKRdP
import Derived.Test.YtcikenlflcofbaaGreatDoorKR27
import Derived.Lib.SlBytesConst
import Derived.Test.YtcikenlflcofbaaGreatDoorRdr
set_option maxRecDepth 100000
set_option maxHeartbeats 8000000
namespace Go.Proofs.YtcikenlflcofbaaGreatDoor
open Go.RowKit
theorem zhv (l:List UInt8) (c:UInt8):decV (l++[c])=10*decV l+(c.toNat-48):=by
  unfold decV;rw [List.foldl_append]
  rfl
theorem zfz:∀ (l:List UInt8) (a:Nat),l.all zaq=true→l.foldl (fun a c=>10*a+(c.toNat-48)) a<(a+1)*10 ^ l.length
  | [],a,_=>by simp
  | c::l,a,h=>by
    rw [List.all_cons,Bool.and_eq_true] at h;have h1:=zfz l (10*a+(c.toNat-48)) h.2;have h2:=h.1;simp only [zaq,Bool.and_eq_true,decide_eq_true_eq] at h2;have h3:c.toNat≤57:=h2.2;have h4:(10*a+(c.toNat-48)+1)*10 ^ l.length≤((a+1)*10)*10 ^ l.length:=Nat.mul_le_mul_right _ (by omega);have h5:(a+1)*10 ^ (l.length+1)=((a+1)*10)*10 ^ l.length:=by rw [Nat.pow_succ,Nat.mul_comm (10 ^ l.length),Nat.mul_assoc]
    rw [List.foldl_cons,List.length_cons,h5];exact Nat.lt_of_lt_of_le h1 h4
theorem zlj (l:List UInt8) (h:l.all zaq=true):decV l<10 ^ l.length:=by
  have:=zfz l 0 h;simpa [decV] using this
def VlQ (W:World) (s:List UInt8) (g:Nat) (v iv:Value) (wr:World):Prop:=∃ k:Nat,k≤s.length∧s.length-k<g∧v = .int .i64 (decV (s.take k))∧iv = .int .i64 (k:Int)∧W=wr
theorem zdm (s:List UInt8) (h:s.all zaq=true) (hl:s.length≤5) (w:World):Calls Tryz.prog 66 #[.string ⟨s.toArray⟩] w (zdI (decV s) w):=by
  have HD:=Hi h;clear h;go_enter Tryz.func66,Tryz.ntmps66;go_wp2;go_loopg [3,4] (s.length+1) (fun g v iv wr=>VlQ w s g v iv wr)
  case atStart=>exact ⟨0,Nat.zero_le _,by omega,by rw [List.take_zero];rfl,rfl,rfl⟩
  case round =>
    obtain ⟨k,hk,hg,rfl,rfl,rfl⟩:=hrel
    by_cases hlt:k<s.length
    · obtain ⟨c,hcc⟩:∃ c,s[k]=c:=⟨_,rfl⟩
      have hkb:({ data:=s.toArray }:ByteArray)[k]'(by show k<s.toArray.size;simpa using hlt)=c:=hcc
      have hdc:zaq c=true:=by rw [← hcc];exact List.all_eq_true.1 HD.out _ (List.getElem_mem hlt)
      simp only [zaq,Bool.and_eq_true,decide_eq_true_eq] at hdc
      have hc1:48≤c.toNat:=hdc.1
      have hc2:c.toNat≤57:=hdc.2
      have hT:s.take (k+1)=s.take k++[c]:=by rw [List.take_succ_eq_append_getElem hlt,hcc]
      have hb:decV (s.take k)<10 ^ 5:=Nat.lt_of_lt_of_le (zlj (s.take k) (by
        rw [List.all_eq_true]
        intro x hx
        exact List.all_eq_true.1 HD.out x (List.mem_of_mem_take hx))) (Nat.pow_le_pow_right (by omega) (by rw [List.length_take];omega))
      have HT:=Hi (show ((decV (s.take (k+1)):Nat):Int)=10*(decV (s.take k):Int)+((c.toNat:Int)-48) by rw [hT,zhv];omega)
      obtain ⟨m,hm⟩:∃ m:Int,((decV (s.take k):Nat):Int)=m:=⟨_,rfl⟩
      have hm0:0≤m:=by omega
      have hm1:m<100000:=by omega
      rw [hm] at HT ⊢
      have e1:48≤(c.toNat:Int):=by omega
      have e2:(c.toNat:Int)≤57:=by omega
      clear hcc hdc hT hb hm hc1 hc2
      go_wp2
      go_roundg (s.length-k)
      case measure=>omega
      case rel=>exact ⟨k+1,by omega,by omega,by rw [HT.out],by go_num,rfl⟩
    · obtain rfl:k=s.length:=by omega
      have HE:=Hi (show decV (s.take s.length)=decV s by rw [List.take_length])
      go_wp2
      go_ret
      exact ⟨zbs (by rw [HE.out]),rfl⟩
def symL:List UInt8 := [40, 41, 44, 60, 62, 61, 43, 45]
def SyR (W:World) (c:UInt8) (g:Nat) (v:Value) (wr:World):Prop:=∃ k:Nat,k≤8∧8-k<g∧v = .int .i64 (k:Int)∧(∀ j,j<k→(symL.getD j 0 == c)=false)∧wr=W
theorem sym_of {c:UInt8} {k:Nat} (hk:k<8) (h:(symL.getD k 0 == c)=true):symB c=true:=by
  have hl:k<symL.length:=hk
  show symL.contains c=_
  rw [List.contains_iff_mem];have:=eq_of_beq h;rw [← this,List.getD_eq_getElem?_getD,List.getElem?_eq_getElem hl];exact List.getElem_mem hl
theorem zkE {c:UInt8} (h:∀ j,j<8→(symL.getD j 0 == c)=false):symB c=false:=by
  show symL.contains c=_
  rw [Bool.eq_false_iff];intro q;rw [List.contains_iff_mem] at q;obtain ⟨j,hj,he⟩:=List.getElem_of_mem q;have:=h j hj;rw [List.getD_eq_getElem?_getD,List.getElem?_eq_getElem hj,Option.getD_some,he] at this;simp at this
theorem zib (c:UInt8) (w:World):Calls Tryz.prog 67 #[.int .u8 c.toNat] w (zgl (symB c) w):=by
  have kc:=fun (w:World) (C:Array Value) (n c:Nat)=>Lib.run_convert_bytes_const (P := Tryz.prog) w 145 5 C n c Tryz.underlying145 Tryz.underlying5
  go_enter Tryz.func67,Tryz.ntmps67;go_wp2;go_loopg [8] 9 (fun g v wr=>SyR (w.alloc (Obj.cells #[.int .u8 40,.int .u8 41,.int .u8 44,.int .u8 60,.int .u8 62,.int .u8 61,.int .u8 43,.int .u8 45] 5 (8,9))) c g v wr)
  case atStart=>exact ⟨0,by omega,by omega,rfl,fun j h=>absurd h (Nat.not_lt_zero _),rfl⟩
  case round =>
    obtain ⟨k,hk,hg,rfl,hall,rfl⟩:=hrel;have HALL:=Hi hall;clear hall
    by_cases hlt:k<8
    · have hcell:∀ W:World,(W.alloc (Obj.cells #[.int .u8 40,.int .u8 41,.int .u8 44,.int .u8 60,.int .u8 62,.int .u8 61,.int .u8 43,.int .u8 45] 5 (8,9))).cell? ⟨W.heap.size,k,none⟩=some (.int .u8 (symL.getD k 0).toNat):=by
        intro W;rw [World.cell?_alloc_mark]
        rcases (by omega:k=0∨k=1∨k=2∨k=3∨k=4∨k=5∨k=6∨k=7) with rfl | rfl | rfl | rfl | rfl | rfl | rfl | rfl <;> rfl
      have hc:=hcell w;obtain ⟨x,hx⟩:∃ x,(symL.getD k 0)=x:=⟨_,rfl⟩;have HX:=Hi hx;rw [hx] at hc
      have hxe:((x.toNat:Int) == (c.toNat:Int))=(x == c):=by
        rw [Bool.eq_iff_iff];simp [← UInt8.toNat_inj]
        omega
      clear hx hcell
      cases hb:(x == c) with
      | true =>
        rw [hb] at hxe;have HF:=Hi (sym_of hlt (by rw [HX.out];exact hb));clear hb;go_wp2;go_ret
        exact ⟨zae HF.out.symm,(Below.refl _ w).alloc (Nat.le_refl _) _⟩
      | false =>
        rw [hb] at hxe;have HF:=Hi hb;clear hb;go_wp2;go_roundg (8-k)
        case measure=>omega
        case rel=>exact ⟨k+1,by omega,by omega,by go_num,fun j hj=>by rcases Nat.lt_succ_iff_lt_or_eq.1 hj with q | rfl;exact HALL.out j q;rw [HX.out];exact HF.out,rfl⟩
    · obtain rfl:k=8:=by omega
      have HF:=Hi (zkE HALL.out)
      go_wp2
      go_ret
      exact ⟨zae HF.out.symm,(Below.refl _ w).alloc (Nat.le_refl _) _⟩
def zbN (s:List UInt8):Int:=(zeI.getD (zaJ.findIdx (· == s)) 0)
def RcR (W0:World) (s:List UInt8) (g:Nat) (v:Value) (wr:World):Prop:=∃ k:Nat,k≤16∧16-k<g∧v = .int .i64 (k:Int)∧(∀ j,j<k→(zaJ.getD j [] == s)=false)∧wr=W0
theorem zjj {s:List UInt8} {k:Nat} (hk:k<16) (h0:∀ j,j<k→(zaJ.getD j [] == s)=false) (h:(zaJ.getD k [] == s)=true):zbN s=zeI.getD k 0:=by
  have hl:k<zaJ.length:=hk;unfold zbN
  have:zaJ.findIdx (· == s)=k:=by
    rw [List.findIdx_eq hl];refine ⟨?_,fun j hj => ?_⟩
    · rw [List.getD_eq_getElem?_getD,List.getElem?_eq_getElem hl] at h
      exact h
    · have:=h0 j hj
      rw [List.getD_eq_getElem?_getD,List.getElem?_eq_getElem (by omega)] at this
      exact this
  rw [this]
theorem zhV {s:List UInt8} (h:∀ j,j<16→(zaJ.getD j [] == s)=false):zbN s=0:=by
  unfold zbN
  have:zaJ.findIdx (· == s)=zaJ.length:=by
    rw [List.findIdx_eq_length];intro x hx;obtain ⟨j,hj,rfl⟩:=List.getElem_of_mem hx;have:=h j hj;rw [List.getD_eq_getElem?_getD,List.getElem?_eq_getElem hj] at this;exact this
  rw [this]
  rfl
theorem zhX (s:List UInt8) (w:World):Calls Tryz.prog 99 #[.string ⟨s.toArray⟩] w (fun e w'=>e = .returned (.int .i64 (zbN s))∧Below w.heap.size w w'):=by
  go_enter Tryz.func99,Tryz.ntmps99;go_wp2_with fail
  refine (zeL w).mono ?_
  rintro e w1 ⟨b,c,rfl,hW,hb1⟩
  have HW:=Hi hW;have HB:=Hi hb1;clear hW hb1;go_wp2;go_loopg [13] 17 (fun g v wr=>RcR w1 s g v wr)
  case atStart=>exact ⟨0,by omega,by omega,rfl,fun j h=>absurd h (Nat.not_lt_zero _),rfl⟩
  case round =>
    obtain ⟨k,hk,hg,rfl,hall,rfl⟩:=hrel;have HALL:=Hi hall;clear hall
    by_cases hlt:k<16
    · have hc:=HW.out.word hlt
      have ho:=HW.out.op hlt
      obtain ⟨x,hx⟩:∃ x,zaJ.getD k []=x:=⟨_,rfl⟩
      obtain ⟨y,hy⟩:∃ y,zeI.getD k 0=y:=⟨_,rfl⟩
      rw [hx] at hc
      rw [hy] at ho
      have HX:=Hi hx
      have HY:=Hi hy
      clear hx hy
      cases hb:(x == s) with
      | true =>
        have HF:=Hi (zjj hlt HALL.out (by rw [HX.out];exact hb))
        go_wp2
        go_ret
        exact ⟨zbs (by rw [HF.out,HY.out]),HB.out⟩
      | false =>
        have HF:=Hi hb
        go_wp2
        go_roundg (16-k)
        case measure=>omega
        case rel=>exact ⟨k+1,by omega,by omega,by go_num,fun j hj=>by rcases Nat.lt_succ_iff_lt_or_eq.1 hj with q | rfl;exact HALL.out j q;rw [HX.out];exact HF.out,rfl⟩
    · obtain rfl:k=16:=by omega
      have HF:=Hi (zhV HALL.out)
      go_wp2
      go_ret
      exact ⟨zbs HF.out.symm,HB.out⟩
theorem zhW {s:List UInt8} (hr:zaC s=true) :
    (za2.contains s=true∧zbN s=zal s∧0<zav (zal s)∧13≤zal s∧zal s≤22) ∨
    (za2.contains s=false∧(zav (zbN s)≤0∨zbN s=4∨zbN s=5∨zbN s=6∨zbN s=7)):=by
  unfold zaC at hr;rw [List.contains_iff_mem] at hr;unfold zaJ at hr;simp only [List.mem_cons,List.not_mem_nil,or_false] at hr
  rcases hr with rfl | rfl | rfl | rfl | rfl | rfl | rfl | rfl | rfl | rfl | rfl | rfl | rfl | rfl | rfl | rfl
  all_goals first | exact .inl (by decide) | exact .inr (by decide)
end Go.Proofs.YtcikenlflcofbaaGreatDoor
set_option maxRecDepth 100000
set_option maxHeartbeats 8000000
namespace Go.Proofs.YtcikenlflcofbaaGreatDoor
open Go.RowKit
def RetXR (rb:Nat) (A:Option Addr) (c:Nat) (l:List Tok) (x:Ex) (s:RSt) (w:World) (e:Ending) (w':World):Prop:=
  ∃ op n nm A' c' ks,x = .mk op n nm ks∧e = .returned (exV op n nm A' ks.length c')∧ks.length≤c'∧c'≤maxLen∧ExP op n nm∧Rw ExV 4 w' (New w w') A' ks.length ks∧LeftR rb A c l s w w'∧s.i≤l.length
def zdX (rb:Nat) (A:Option Addr) (c:Nat) (t:List UInt8) (l:List Tok) (K:FuncId) (e:RSt→Option (Ex × RSt)):Prop:=
  ∀ s w y s',RS rb A c t l s w→e s=some (y,s')→Calls Tryz.prog K #[.pointer (some ⟨rb,0,none⟩)] w (RetXR rb A c l y s' w)
def zew (rb:Nat) (A:Option Addr) (c:Nat) (t:List UInt8) (l:List Tok) (n:Int) (e:RSt→Option (Ex × RSt)):Prop:=
  ∀ s w y s',RS rb A c t l s w→e s=some (y,s')→Calls Tryz.prog 68 #[.pointer (some ⟨rb,0,none⟩),.int .i64 n] w (RetXR rb A c l y s' w)
theorem zbk {α β:Type} {r:Option (α × RSt)} {f:α→RSt→Option (β × RSt)} {v:β × RSt} (h:zbP r f=some v):∃ x s,r=some (x,s)∧f x s=some v:=by
  rcases r with _ | ⟨x,s⟩
  · cases h
  · exact ⟨x,s,rfl,h⟩
theorem LeftR.put {rb:Nat} {A:Option Addr} {c:Nat} {l:List Tok} {s:RSt} {w w':World} (h:LeftR rb A c l s w w') {b:Nat} (hb:w.heap.size≤b) (hne:b≠rb) (v0 v1 v2 v3:Value):LeftR rb A c l s w (set4 w' b v0 v1 v2 v3):=by
  have g:=zaD w' b v0 v1 v2 v3;exact ⟨⟨g.os.trans h.1.os,g.tape.trans h.1.tape,g.output.trans h.1.output,Nat.le_trans h.1.size g.size,fun k hk hn=>(g.block k (Nat.lt_of_lt_of_le hk h.1.size) (fun q=>by injection q;omega)).trans (h.1.block k hk hn)⟩,(g.block rb h.lt (fun q=>hne (by injection q with q;exact q.symm))).trans h.2⟩
theorem RetXR.put {rb:Nat} {A:Option Addr} {c:Nat} {l:List Tok} {w w1:World} {op n:Int} {nm:List UInt8} {A':Option Addr} {c':Nat} {ks:List Ex} {s:RSt} {S:Nat→Prop}
    (h1:ks.length≤c') (h2:c'≤maxLen) (h3:ExP op n nm) (hr:Rw ExV 4 w1 S A' ks.length ks) (hS:∀ b,S b→w.heap.size<b∧b<w1.heap.size) (hl:LeftR rb A c l s w w1) (hj:s.i≤l.length) (hp:rb<w.heap.size) :
    RetXR rb A c l (.mk op n nm ks) s w (.returned (exV op n nm A' ks.length c')) (set4 w1 w.heap.size (.int .i64 op) (.int .i64 n) (.string ⟨nm.toArray⟩) (.slice A' ks.length c')):=by
  have g:=zaD w1 w.heap.size (.int .i64 op) (.int .i64 n) (.string ⟨nm.toArray⟩) (.slice A' ks.length c');have z:=zaz w1 w.heap.size (.int .i64 op) (.int .i64 n) (.string ⟨nm.toArray⟩) (.slice A' ks.length c');refine ⟨op,n,nm,A',c',ks,rfl,rfl,h1,h2,h3,?_,hl.put (Nat.le_refl _) (by omega) _ _ _ _,hj⟩
  refine hr.mono ExV.mono (fun b hb => ?_) (zah g fun b hb=>⟨(hS b hb).2,fun q=>by have:=(hS b hb).1;injection q;omega⟩)
  have:=hS b hb;exact ⟨by omega,by omega⟩
theorem ZB.leftR {rb:Nat} {A:Option Addr} {c:Nat} {l:List Tok} {s:RSt} {w1 w2:World} {b:Nat} (h:ZB w1 b) (k:LeftR rb A c l s w1 w2) (hne:b≠rb):ZB w2 b:=⟨(k.1.block b (XV.lt h) (fun q=>hne (by injection q))).trans (XV.heap h)⟩
def zcy (op n:Int) (nm:List UInt8) (A:Option Addr) (k c:Nat) (op2 n2:Int) (nm2:List UInt8) (A2:Option Addr) (k2 c2:Nat):Obj:=
  .cells #[.int .i64 op,.int .i64 n,.string ⟨nm.toArray⟩,.slice A k c,.int .i64 op2,.int .i64 n2,.string ⟨nm2.toArray⟩,.slice A2 k2 c2] 48 (0,0)
def zgO (opn:Int) (o:Obj) (w:World) (e:Ending) (w':World):Prop:=∃ b,e = .returned (exV opn 0 [] (some ⟨b,0,none⟩) 2 2)∧Below w.heap.size w w'∧w.heap.size≤b∧b<w'.heap.size∧w'.heap[b]? = some o
theorem zlZ (opn:Int) (op n:Int) (nm:List UInt8) (A:Option Addr) (k c:Nat) (op2 n2:Int) (nm2:List UInt8) (A2:Option Addr) (k2 c2:Nat) (w:World) :
    Calls Tryz.prog 88 #[.int .i64 opn,exV op n nm A k c,exV op2 n2 nm2 A2 k2 c2] w (zgO opn (zcy op n nm A k c op2 n2 nm2 A2 k2 c2) w):=by
  unfold exV;have hb1:=zaa w (Obj.cells #[.int .i64 op,.int .i64 n,.string ⟨nm.toArray⟩,.slice A k c] 48);have hb2:=zaa (w.alloc (Obj.cells #[.int .i64 op,.int .i64 n,.string ⟨nm.toArray⟩,.slice A k c] 48)) (Obj.cells #[.int .i64 op2,.int .i64 n2,.string ⟨nm2.toArray⟩,.slice A2 k2 c2] 48);have hb3:=zaa ((w.alloc (Obj.cells #[.int .i64 op,.int .i64 n,.string ⟨nm.toArray⟩,.slice A k c] 48)).alloc (Obj.cells #[.int .i64 op2,.int .i64 n2,.string ⟨nm2.toArray⟩,.slice A2 k2 c2] 48)) (Obj.cells #[.int .i64 0,.int .i64 0,.string ⟨#[]⟩,.slice Option.none 0 0] 48);have hBB:=(hb1.trans (hb2.mono hb1.size)).trans (hb3.mono (Nat.le_trans hb1.size hb2.size));clear hb1 hb2 hb3;have HBB:=Hi hBB;clear hBB;go_enter Tryz.func88,Tryz.ntmps88;go_wp2_with fail
  obtain ⟨V,hV⟩:∃ V,((w.alloc (Obj.cells #[.int .i64 op,.int .i64 n,.string ⟨nm.toArray⟩,.slice A k c] 48)).alloc (Obj.cells #[.int .i64 op2,.int .i64 n2,.string ⟨nm2.toArray⟩,.slice A2 k2 c2] 48)).alloc (Obj.cells #[.int .i64 opn,.int .i64 0,.string ⟨#[]⟩,.slice (some ⟨w.heap.size+1+1+1,0,none⟩) 2 2] 48)=V:=⟨_,rfl⟩
  have hX:XV V (w.heap.size+1+1) opn 0 [] (some ⟨w.heap.size+1+1+1,0,none⟩) 2 2:=by
    have:=XV.new ((w.alloc (Obj.cells #[.int .i64 op,.int .i64 n,.string ⟨nm.toArray⟩,.slice A k c] 48)).alloc (Obj.cells #[.int .i64 op2,.int .i64 n2,.string ⟨nm2.toArray⟩,.slice A2 k2 c2] 48)) opn 0 [] (some ⟨w.heap.size+1+1+1,0,none⟩) 2 2;simp only [World.size_alloc] at this;rw [← hV];exact this
  have hs:V.heap.size=w.heap.size+1+1+1:=by rw [← hV];simp only [World.size_alloc]
  have hB:Below w.heap.size w V:=by
    rw [← hV];exact (((Below.refl _ w).alloc (Nat.le_refl _) _).alloc (by rw [World.size_alloc];omega) _).alloc (by simp only [World.size_alloc];omega) _
  rw [hV];clear hV HBB;obtain ⟨x0,x1,x2,x3,-,-,-,-⟩:=hX.cells;have hlt:=hX.lt;refine bodyPost_ret (v:=exV opn 0 [] (some ⟨w.heap.size+1+1+1,0,none⟩) 2 2) (by simp [results,Tryz.results88,go_sem,exV,x0,x1,x2,x3,hlt]) rfl ⟨_,rfl,hB.alloc (by omega) _,by omega,by rw [World.size_alloc];omega,?_⟩
  have:=heap_alloc_new V (zcy op n nm A k c op2 n2 nm2 A2 k2 c2);rw [hs] at this;exact this
theorem zjG (opn:Int) (op n:Int) (nm:List UInt8) (A:Option Addr) (k c:Nat) (op2 n2:Int) (nm2:List UInt8) (A2:Option Addr) (k2 c2:Nat) (w:World) :
    Calls Tryz.prog 88 #[.int .i64 opn,.agg #[.int .i64 op,.int .i64 n,.string ⟨nm.toArray⟩,.slice A k c],.agg #[.int .i64 op2,.int .i64 n2,.string ⟨nm2.toArray⟩,.slice A2 k2 c2]] w (zgO opn (zcy op n nm A k c op2 n2 nm2 A2 k2 c2) w):=zlZ opn op n nm A k c op2 n2 nm2 A2 k2 c2 w
structure JnAt (w:World) (b c:Nat) (ops:List (List UInt8)):Prop where
  words:w.heap[b]? = some (.cells (ops.map fun l=>Value.string ⟨l.toArray⟩).toArray 9 (0,0))
  ops:w.heap[c]? = some (.cells (ops.map fun l=>Value.int .i64 (zal l)).toArray 3 (0,0))
theorem JnAt.keep {S:Nat→Prop} {w w':World} {b c:Nat} {ops:List (List UInt8)} (h:JnAt w b c ops) (hk:KeepOn S w w') (hb:S b) (hc:S c):JnAt w' b c ops:=⟨(hk b hb).trans h.words,(hk c hc).trans h.ops⟩
theorem JnAt.word {w:World} {b c:Nat} {ops:List (List UInt8)} (h:JnAt w b c ops) {k:Nat} {l:List UInt8} (hk:ops[k]? = some l):w.cell? ⟨b,k,none⟩=some (.string ⟨l.toArray⟩):=by
  rw [cell_of_row w b k _ _ (0,0) h.words];simp [hk]
theorem JnAt.op {w:World} {b c:Nat} {ops:List (List UInt8)} (h:JnAt w b c ops) {k:Nat} {l:List UInt8} (hk:ops[k]? = some l):w.cell? ⟨c,k,none⟩=some (.int .i64 (zal l)):=by
  rw [cell_of_row w c k _ _ (0,0) h.ops];simp [hk]
theorem JnAt.lt {w:World} {b c:Nat} {ops:List (List UInt8)} (h:JnAt w b c ops):b<w.heap.size∧c<w.heap.size:=⟨(Array.getElem?_eq_some_iff.1 h.words).1,(Array.getElem?_eq_some_iff.1 h.ops).1⟩
def RetJn (ops:List (List UInt8)) (w:World) (e:Ending) (w':World):Prop:=∃ b c,e = .returned (.tuple #[.slice (some ⟨b,0,none⟩) ops.length ops.length,.slice (some ⟨c,0,none⟩) ops.length ops.length])∧JnAt w' b c ops∧w.heap.size≤b∧w.heap.size≤c∧Below w.heap.size w w'
theorem jn_new (w:World) (ops:List (List UInt8)):JnAt ((w.alloc (.cells (ops.map fun l=>Value.string ⟨l.toArray⟩).toArray 9)).alloc (.cells (ops.map fun l=>Value.int .i64 (zal l)).toArray 3)) w.heap.size (w.heap.size+1) ops:=by
  refine ⟨(Below.heap_alloc _ _ _ (by rw [World.size_alloc];omega)).trans (heap_alloc_new w _),?_⟩
  have h:=heap_alloc_new (w.alloc (.cells (ops.map fun l=>Value.string ⟨l.toArray⟩).toArray 9)) (.cells (ops.map fun l=>Value.int .i64 (zal l)).toArray 3);rw [World.size_alloc] at h;exact h
theorem jn_of (w:World) (ops:List (List UInt8)) (W O:Array Value) (h1:W=(ops.map fun l=>Value.string ⟨l.toArray⟩).toArray) (h2:O=(ops.map fun l=>Value.int .i64 (zal l)).toArray):JnAt ((w.alloc (.cells W 9)).alloc (.cells O 3)) w.heap.size (w.heap.size+1) ops:=by
  subst h1;subst h2;exact jn_new w ops
theorem opW:zal [111, 114] = 6∧zal [120, 111, 114] = 7∧zal [97, 110, 100] = 5∧zal [43] = 11∧zal [45] = 12∧zal [60] = 8∧zal [62] = 9∧zal [61] = 10:=by decide
def zkN (n:Int) (ops:List (List UInt8)):Prop:=(n=0∧ops=[[111, 114]])∨(n=1∧ops=[[120, 111, 114]])∨(n=2∧ops=[[97, 110, 100]])∨(n=4∧ops=[[43],[45]])
theorem ziL {n:Int} {ops:List (List UInt8)} (h:zkN n ops) (w:World):Calls Tryz.prog 86 #[.int .i64 n] w (RetJn ops w):=by
  rcases h with ⟨rfl,rfl⟩ | ⟨rfl,rfl⟩ | ⟨rfl,rfl⟩ | ⟨rfl,rfl⟩
  all_goals
    go_enter Tryz.func86,Tryz.ntmps86;go_wp2;refine bodyPost_ret (v := .tuple #[.slice (some ⟨w.heap.size,0,none⟩) _ _,.slice (some ⟨w.heap.size+1,0,none⟩) _ _]) (by simp [results,Tryz.results86,go_sem]) rfl ⟨_,_,rfl,jn_of w _ _ _ rfl (by simp [opW]),Nat.le_refl _,by omega,?_⟩
    exact ((Below.refl _ w).alloc (Nat.le_refl _) _).alloc (by rw [World.size_alloc];omega) _
end Go.Proofs.YtcikenlflcofbaaGreatDoor
