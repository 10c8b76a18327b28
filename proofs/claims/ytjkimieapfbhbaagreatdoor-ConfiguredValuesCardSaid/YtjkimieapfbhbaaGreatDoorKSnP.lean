/-
 The names of signals: what the program's Outputs and Inputs and the reference's return, for any relay.
-/
import Derived.Test.YtjkimieapfbhbaaGreatDoorKTexts
import Derived.Maps.OwnSet
import Derived.Maps.Views
import Derived.StringKeys
set_option maxRecDepth 100000
set_option maxHeartbeats 8000000
open Go.Value renaming string → g, slice → C, bool → I
open Option renaming none → l
open Go.Obj renaming cells → m
open Go.Proofs.Tryz renaming prog → E
open Nat renaming le_refl → G, zero_le → J, lt_succ_self → K, not_lt_zero → L, le_trans → Q
open List renaming getElem?_eq_getElem → H
open Go.World renaming size_alloc → M, ownsRow_nil → O
namespace Go.Proofs.YtjkimieapfbhbaaGreatDoor
open Go.RowKit
def ze5 (s:ByteArray) (w:World) (e:Ending) (w':World):Prop:=e = .returned (g s)∧Below w.heap.size w w'
theorem zgT (a b:ByteArray) (w:World):Calls E 109 #[.agg #[g a,g b]] w (ze5 a w):=by
 go_enter Tryz.func109,Tryz.ntmps109;go_wp2;go_ret
 exact ⟨rfl,zaa _ _⟩
theorem zhT (a b c d:ByteArray) (w:World):Calls E 179 #[.agg #[g a,g b,g c,g d]] w (ze5 a w):=by
 go_enter Tryz.func179,Tryz.ntmps179;go_wp2;go_ret
 exact ⟨rfl,zaa _ _⟩
def zbg (xs:List (ByteArray × ByteArray)) (k:Nat):List Value:=(xs.take k).map fun r => g r.1
theorem zdh (xs:List (ByteArray × ByteArray)) (k:Nat) (x:ByteArray × ByteArray) (h:xs[k]? = some x):zbg xs (k+1)=zbg xs k++[g x.1]:=by
 unfold zbg;rw [List.take_add_one,h];simp
def zbz (xs:List SubM) (k:Nat):List Value:=(xs.take k).map fun r => g r.loc
theorem zdH (xs:List SubM) (k:Nat) (x:SubM) (h:xs[k]? = some x):zbz xs (k+1)=zbz xs k++[g x.loc]:=by
 unfold zbz;rw [List.take_add_one,h];simp
theorem zfT (A:Option Addr) (c B:Nat) (xs:List (ByteArray × ByteArray)) (w:World) (hB:B≤w.heap.size) (hr:Rws RuleC 2 w B A xs.length xs) (hn:xs.length≤1000) :
 Calls E 108 #[C A xs.length c,.func (.func 109) #[] #[]] w (RetRow 9 1 xs.length (zbg xs xs.length) w):=by
 obtain ⟨i0,hi,hz0,hz1,hz2⟩:=info_parts zbn;go_enter Tryz.func108,Tryz.ntmps108;go_wp2
 go_loopw [5,10] (zbW 9 1 w.heap.size w xs.length (fun k=>k) (zbg xs)) (fun _ i _=>xs.length-(intOf i).toNat)
 case atStart=>exact ⟨0,J _,rfl,O _ _ _ _,Below.refl _ _⟩
 case round =>
  obtain ⟨k,hk,rfl,hown,hbel⟩:=hrel;dsimp only at hown
  by_cases hlt:k<xs.length
  · have hsz:=hbel.size
    obtain ⟨b,o,cs,x,rfl,hbB,hx,-,⟨rfl,-,-⟩,hat⟩:=hr.at_ hlt
    have hc0:wr.cell? ⟨b,o+k*2,l⟩=some (g x.1):=(hbel.cell (by show b<w.heap.size;omega)).trans (hat 0 _ rfl)
    have hc1:wr.cell? ⟨b,o+k*2+1,l⟩=some (g x.2):=(hbel.cell (by show b<w.heap.size;omega)).trans (hat 1 _ rfl)
    have HX:=Hd hx
    have HO:=Hd hown
    clear hown hx hat hr
    go_wp2_with (first
     | (go_at_call 109;refine (zgT x.1 x.2 _).mono ?_;rintro e w2 ⟨rfl,hb2⟩;have HO2:=Hd (zab (HO.out.alloc _) hb2 (G _));have hbel2:=(hbel.alloc hsz _).trans (hb2.mono (by simp;omega));have hsz2:=hbel2.size)
     | (at_builtin;refine zaK _ _ 22 rfl rfl Tryz.underlying22 hi hz0 hz1 hz2 rfl (by decide) rfl HO2.out hbel2 _ rfl rfl rfl (by simp [Value.oneCell']) (by omega) (by unfold maxLen;omega) hsz2 ?_;intro v' w' hown' hbel' _))
    go_roundw
    case rel=>exact ⟨k+1,by omega,by go_num,by dsimp only;rw [zdh xs k x HX.out];exact hown',hbel'⟩
    case measure=>simp [intOf];omega
  · go_wp2
    go_ret
    obtain rfl:k=xs.length:=by omega
    exact RetRow.mk hown (G _) hbel
theorem zha (A:Option Addr) (c B:Nat) (xs:List SubM) (w:World) (hB:B≤w.heap.size) (hr:Rws SubC 4 w B A xs.length xs) (hn:xs.length≤1000) :
 Calls E 178 #[C A xs.length c,.func (.func 179) #[] #[]] w (RetRow 9 1 xs.length (zbz xs xs.length) w):=by
 obtain ⟨i0,hi,hz0,hz1,hz2⟩:=info_parts zbn;go_enter Tryz.func178,Tryz.ntmps178;go_wp2
 go_loopw [5,10] (zbW 9 1 w.heap.size w xs.length (fun k=>k) (zbz xs)) (fun _ i _=>xs.length-(intOf i).toNat)
 case atStart=>exact ⟨0,J _,rfl,O _ _ _ _,Below.refl _ _⟩
 case round =>
  obtain ⟨k,hk,rfl,hown,hbel⟩:=hrel;dsimp only at hown
  by_cases hlt:k<xs.length
  · have hsz:=hbel.size
    obtain ⟨b,o,cs,x,rfl,hbB,hx,-,⟨rfl,-⟩,hat⟩:=hr.at_ hlt
    have hc0:wr.cell? ⟨b,o+k*4,l⟩=some (g x.loc):=(hbel.cell (by show b<w.heap.size;omega)).trans (hat 0 _ rfl)
    have hc1:wr.cell? ⟨b,o+k*4+1,l⟩=some (g x.device):=(hbel.cell (by show b<w.heap.size;omega)).trans (hat 1 _ rfl)
    have hc2:wr.cell? ⟨b,o+k*4+2,l⟩=some (g x.set):=(hbel.cell (by show b<w.heap.size;omega)).trans (hat 2 _ rfl)
    have hc3:wr.cell? ⟨b,o+k*4+3,l⟩=some (g x.signal):=(hbel.cell (by show b<w.heap.size;omega)).trans (hat 3 _ rfl)
    have HX:=Hd hx
    have HO:=Hd hown
    clear hown hx hat hr
    go_wp2_with (first
     | (go_at_call 179;refine (zhT x.loc x.device x.set x.signal _).mono ?_;rintro e w2 ⟨rfl,hb2⟩;have HO2:=Hd (zab (HO.out.alloc _) hb2 (G _));have hbel2:=(hbel.alloc hsz _).trans (hb2.mono (by simp;omega));have hsz2:=hbel2.size)
     | (at_builtin;refine zaK _ _ 22 rfl rfl Tryz.underlying22 hi hz0 hz1 hz2 rfl (by decide) rfl HO2.out hbel2 _ rfl rfl rfl (by simp [Value.oneCell']) (by omega) (by unfold maxLen;omega) hsz2 ?_;intro v' w' hown' hbel' _))
    go_roundw
    case rel=>exact ⟨k+1,by omega,by go_num,by dsimp only;rw [zdH xs k x HX.out];exact hown',hbel'⟩
    case measure=>simp [intOf];omega
  · go_wp2
    go_ret
    obtain rfl:k=xs.length:=by omega
    exact RetRow.mk hown (G _) hbel
def RelayM.outputs (r:RelayM):List ByteArray:=zbE r.kind++r.rules.map (·.1)
def RelayM.inputs (r:RelayM):List ByteArray:=r.subs.map (·.loc)
theorem zfS (xs:List (ByteArray × ByteArray)):zbg xs xs.length=(xs.map (·.1)).map .string:=by simp [zbg]
theorem zlX (xs:List SubM):zbz xs xs.length=(xs.map (·.loc)).map .string:=by simp [zbz]
theorem zdG (xs:List ByteArray):∀ u∈xs.map g,u.oneCell'=true:=by
 intro u hu;obtain ⟨s,_,rfl⟩:=List.mem_map.1 hu
 rfl
theorem zeC (cs:List Value) (r:RelayM) (B:Nat) (w:World) (hB:B≤w.heap.size) (h:RelayC w B cs r) (hs:r.rules.length≤20) :
 Calls E 71 #[.agg cs.toArray] w (RetRow 9 1 r.outputs.length (r.outputs.map .string) w):=by
 obtain ⟨i0,hi,hz0,hz1,hz2⟩:=info_parts zbn;obtain ⟨c49,h49,A1,k1,e1,l1,m1,R1⟩:=h.rules;have h1:=h.kind
 cases e1
 clear h;have hfl:=zbS r.kind;have hsum:r.outputs.length=(zbE r.kind).length+r.rules.length:=by simp [RelayM.outputs]
 have hcl:r.outputs.map g=(zbE r.kind).map .string++zbg r.rules r.rules.length:=by simp [RelayM.outputs,zbg]
 rw [hsum,hcl];clear hsum hcl;go_enter Tryz.func71,Tryz.ntmps71;go_wp2;have q1:(w.alloc (m cs.toArray 60)).cell? ⟨w.heap.size,1,l⟩=some (.int .i64 r.kind):=by simpa using h1
 have q49:(w.alloc (m cs.toArray 60)).cell? ⟨w.heap.size,49,l⟩=some (C A1 r.rules.length k1):=by simpa using h49
 have hbox:=zaa w (m cs.toArray 60);have hboxs:=hbox.size;have hBs:B≤w.heap.size+1:=by omega
 have hn20:r.rules.length≤1000:=by omega
 have hgt:∀ w2:World,(w.alloc (m cs.toArray 60)).heap.size≤w2.heap.size→w.heap.size<w2.heap.size:=fun w2 h=>by simp only [M] at h;omega
 have hm1:(zbE r.kind).length+r.rules.length≤maxLen:=by unfold maxLen;omega
 have hm2:((zbE r.kind).length+r.rules.length)*16≤140737488355328:=by omega
 clear h1 h49
 go_region_held3 (fun w'=>w'.cell? ⟨w.heap.size,1,l⟩=some (.int .i64 r.kind)∧w'.cell? ⟨w.heap.size,49,l⟩=some (C A1 r.rules.length k1)) (go_keep)
  (first
   | ((go_at_call 107;go_must (refine (zjO r.kind _).mono ?_;rintro e w2 ⟨A2,c2,rfl,-,-,ho2',hb2'⟩;have ho2:=zao (base':=w.heap.size+1) ho2' (by simp);have hb2:=za8 (a:=w.alloc (m cs.toArray 60)) (B':=w.heap.size+1) hb2' rfl rfl rfl rfl (by simp);have z2:=hgt w2 hb2.size;have hB2:=Q hB (Nat.le_of_lt z2);have R2:=R1.mono RuleC.mono (G _) ((hbox.mono hB).trans (hb2.mono hBs));have p1:=(hb2.cell (p:=⟨w.heap.size,1,l⟩) (K _)).trans q1;have p2:=(hb2.cell (p:=⟨w.heap.size,49,l⟩) (K _)).trans q49)))
   | ((go_at_call 108;refine (zfT A1 k1 B r.rules _ hB2 R2 hn20).mono ?_;rintro e w3 ⟨A3,c3,rfl,-,-,ho3,hb3⟩;have z3:w2.heap.size≤w3.heap.size:=hb3.size;have p3:=(hb3.cell (p:=⟨w.heap.size,1,l⟩) z2).trans p1;have p4:=(hb3.cell (p:=⟨w.heap.size,49,l⟩) z2).trans p2;have ho23:=zab ho2 hb3 (G _);have hb23:=hb2.trans (hb3.mono z2);have hsrc:=Src.of_own ho3;have hone:∀ u∈zbg r.rules r.rules.length,u.oneCell'=true:=by rw [zfS];exact zdG _))
   | ((have _t:=ho23;go_must (refine zcm _ _ 22 (by rfl) (by rfl) Tryz.underlying22 hi hz0 hz1 hz2 rfl Nat.one_pos (by rfl) ho23 hb23 (by rfl) hsrc hone hm1 hm2 (Q z2 z3) ?_;intro v' w' hown' hbel' hsz';have p5:=(hbel'.cell (p:=⟨w.heap.size,1,l⟩) (K _)).trans q1;have p6:=(hbel'.cell (p:=⟨w.heap.size,49,l⟩) (K _)).trans q49))))
 go_wp2;go_ret
 exact RetRow.mk hown' (Nat.le_succ _) (hbox.trans (hbel'.mono (Nat.le_succ _)))
def zcM (r:RelayM) (k:Nat):List Value:=(zbE r.kind).map .string++zbg r.rules k
theorem zfI (r:RelayM) (k:Nat) (x:ByteArray × ByteArray) (h:r.rules[k]? = some x):zcM r (k+1)=zcM r k++[g x.1]:=by
 unfold zcM;rw [zdh _ _ _ h,List.append_assoc]
theorem zgO (cs:List Value) (r:RelayM) (B:Nat) (w:World) (hB:B≤w.heap.size) (h:RelayC w B cs r) (hs:r.rules.length≤20) :
 Calls E 64 #[.agg cs.toArray] w (RetRow 9 1 r.outputs.length (r.outputs.map .string) w):=by
 obtain ⟨i0,hi,hz0,hz1,hz2⟩:=info_parts zbn;obtain ⟨c49,h49,A1,k1,e1,l1,m1,R1⟩:=h.rules;have h1:=h.kind
 cases e1
 clear h;have hfl:=zbS r.kind;have hsum:r.outputs.length=(zbE r.kind).length+r.rules.length:=by simp [RelayM.outputs]
 have hcl:r.outputs.map g=zcM r r.rules.length:=by simp [RelayM.outputs,zcM,zbg]
 rw [hsum,hcl];clear hsum hcl;have q49:(w.alloc (m cs.toArray 60)).cell? ⟨w.heap.size,49,l⟩=some (C A1 r.rules.length k1):=by simpa using h49
 have hbox:=zaa w (m cs.toArray 60);go_enter Tryz.func64,Tryz.ntmps64
 go_wp2_with (first
  | (go_at_call 88;refine (zi5 r.kind _).mono ?_;rintro e w2 ⟨A2,c2,rfl,-,-,ho2,hb2⟩;have HO2:=Hd ho2;clear ho2))
 have hsz2:=hb2.size;simp only [M] at hsz2
 go_loopw [3,4] (zbW 9 1 (w.heap.size+1) (w.alloc (m cs.toArray 60)) r.rules.length (fun k=>(zbE r.kind).length+k) (zcM r)) (fun _ i _=>r.rules.length-(intOf i).toNat)
 case atStart=>exact ⟨0,J _,rfl,by simpa [zcM,zbg] using HO2.out,by simpa using hb2⟩
 case round =>
  clear hb2 HO2 hsz2;obtain ⟨k,hk,rfl,hown,hbel⟩:=hrel;dsimp only at hown;have hbw:Below w.heap.size w wr:=hbox.trans (hbel.mono (by omega));have q:wr.cell? ⟨w.heap.size,49,l⟩=some (C A1 r.rules.length k1):=(hbel.cell (p:=⟨w.heap.size,49,l⟩) (by simp)).trans q49
  by_cases hlt:k<r.rules.length
  · have hsz:=hbel.size
    simp only [M] at hsz
    obtain ⟨b,o,cs',x,rfl,hbB,hx,-,⟨rfl,-,-⟩,hat⟩:=R1.at_ hlt
    have hc0:wr.cell? ⟨b,o+k*2,l⟩=some (g x.1):=(hbw.cell (by show b<w.heap.size;omega)).trans (hat 0 _ rfl)
    have HX:=Hd hx
    have HO:=Hd hown
    clear hown hx hat R1
    go_wp2_with (first
     | (at_builtin;refine zaK _ _ 22 rfl rfl Tryz.underlying22 hi hz0 hz1 hz2 rfl (by decide) rfl HO.out hbel _ rfl rfl rfl (by simp [Value.oneCell']) (by omega) (by unfold maxLen;omega) hsz ?_;intro v' w' hown' hbel' _))
    go_roundw
    case rel=>exact ⟨k+1,by omega,by go_num,by dsimp only;rw [zfI r k x HX.out];exact hown',hbel'⟩
    case measure=>simp [intOf];omega
  · go_wp2
    go_ret
    obtain rfl:k=r.rules.length:=by omega
    exact RetRow.mk hown (by omega) hbw
theorem ziO (cs:List Value) (r:RelayM) (B:Nat) (w:World) (hB:B≤w.heap.size) (h:RelayC w B cs r) (hs:r.subs.length≤30) :
 Calls E 145 #[.agg cs.toArray] w (RetRow 9 1 r.inputs.length (r.inputs.map .string) w):=by
 obtain ⟨c52,h52,A1,k1,e1,l1,m1,R1⟩:=h.subs
 cases e1
 clear h;have hsum:r.inputs.length=r.subs.length:=by simp [RelayM.inputs]
 have hcl:r.inputs.map g=zbz r.subs r.subs.length:=by simp [RelayM.inputs,zbz]
 rw [hsum,hcl];clear hsum hcl;have hbox:=zaa w (m cs.toArray 60);go_enter Tryz.func145,Tryz.ntmps145
 go_wp2_with (first
  | (go_at_call 178;refine (zha A1 k1 B r.subs _ (by simp;omega) (R1.mono SubC.mono (G _) (hbox.mono hB)) (by omega)).mono ?_;rintro e w3 ⟨A3,c3,rfl,h31,h32,ho3,hb3⟩))
 go_ret
 exact RetRow.mk ho3 (by simp) (hbox.trans (hb3.mono (by simp)))
theorem zhI (cs:List Value) (r:RelayM) (B:Nat) (w:World) (hB:B≤w.heap.size) (h:RelayC w B cs r) (hs:r.subs.length≤30) :
 Calls E 65 #[.agg cs.toArray] w (RetRow 9 1 r.inputs.length (r.inputs.map .string) w):=by
 obtain ⟨i0,hi,hz0,hz1,hz2⟩:=info_parts zbn;obtain ⟨c52,h52,A1,k1,e1,l1,m1,R1⟩:=h.subs
 cases e1
 clear h;have hsum:r.inputs.length=r.subs.length:=by simp [RelayM.inputs]
 have hcl:r.inputs.map g=zbz r.subs r.subs.length:=by simp [RelayM.inputs,zbz]
 rw [hsum,hcl];clear hsum hcl;have q52:(w.alloc (m cs.toArray 60)).cell? ⟨w.heap.size,52,l⟩=some (C A1 r.subs.length k1):=by simpa using h52
 have hbox:=zaa w (m cs.toArray 60);go_enter Tryz.func65,Tryz.ntmps65;go_wp2
 go_loopw [3,4] (zbW 9 1 (w.heap.size+1) (w.alloc (m cs.toArray 60)) r.subs.length (fun k=>k) (zbz r.subs)) (fun _ i _=>r.subs.length-(intOf i).toNat)
 case atStart=>exact ⟨0,J _,rfl,O _ _ _ _,Below.refl _ _⟩
 case round =>
  obtain ⟨k,hk,rfl,hown,hbel⟩:=hrel;dsimp only at hown;have hbw:Below w.heap.size w wr:=hbox.trans (hbel.mono (by omega));have q:wr.cell? ⟨w.heap.size,52,l⟩=some (C A1 r.subs.length k1):=(hbel.cell (p:=⟨w.heap.size,52,l⟩) (by simp)).trans q52
  by_cases hlt:k<r.subs.length
  · have hsz:=hbel.size
    simp only [M] at hsz
    obtain ⟨b,o,cs',x,rfl,hbB,hx,-,⟨rfl,-⟩,hat⟩:=R1.at_ hlt
    have hc0:wr.cell? ⟨b,o+k*4,l⟩=some (g x.loc):=(hbw.cell (by show b<w.heap.size;omega)).trans (hat 0 _ rfl)
    have HX:=Hd hx
    have HO:=Hd hown
    clear hown hx hat R1
    go_wp2_with (first
     | (at_builtin;refine zaK _ _ 22 rfl rfl Tryz.underlying22 hi hz0 hz1 hz2 rfl (by decide) rfl HO.out hbel _ rfl rfl rfl (by simp [Value.oneCell']) (by omega) (by unfold maxLen;omega) hsz ?_;intro v' w' hown' hbel' _))
    go_roundw
    case rel=>exact ⟨k+1,by omega,by go_num,by dsimp only;rw [zdH _ k x HX.out];exact hown',hbel'⟩
    case measure=>simp [intOf];omega
  · go_wp2
    go_ret
    obtain rfl:k=r.subs.length:=by omega
    exact RetRow.mk hown (by omega) hbw
def idx {α:Type} (p:α→Bool) (xs:List α):Int:=match xs.findIdx? p with
 | some i=>(i:Int)
 | Option.none => -1
def zbH {α:Type} (p:α→Bool) (xs:List α) (k:Nat):Prop:=∀ j y,j<k→xs[j]? = some y→p y=false
theorem za2 {α:Type} (p:α→Bool) (xs:List α):zbH p xs 0:=fun _ _ h=>absurd h (L _)
theorem zaZ {α:Type} {p:α→Bool} {xs:List α} {k:Nat} {x:α} (h:zbH p xs k) (hx:xs[k]? = some x) (hp:p x=false):zbH p xs (k+1):=by
 intro j y hj hy
 rcases Nat.lt_succ_iff_lt_or_eq.1 hj with h' | rfl
 · exact h j y h' hy
 · rw [hx] at hy;cases hy;exact hp
theorem zbk {α:Type} {p:α→Bool} {xs:List α} {k:Nat} {x:α} (h:zbH p xs k) (hx:xs[k]? = some x) (hp:p x=true):idx p xs=(k:Int):=by
 have hk:k<xs.length:=(List.getElem?_eq_some_iff.1 hx).1
 have:xs.findIdx? p=some k:=by
  rw [List.findIdx?_eq_some_iff_getElem];refine ⟨hk,?_,fun j hj => ?_⟩
  · have:xs[k]=x:=by rw [H hk] at hx;exact Option.some.inj hx
    rw [this];exact hp
  · have:=h j (xs[j]'(by omega)) hj (H (by omega))
    simp [this]
 simp [idx,this]
theorem zbL {α:Type} {p:α→Bool} {xs:List α} (h:zbH p xs xs.length):idx p xs = -1:=by
 have:xs.findIdx? p=l:=by
  rw [List.findIdx?_eq_none_iff];intro x hx;obtain ⟨j,hj⟩:=List.getElem?_of_mem hx;exact h j x ((List.getElem?_eq_some_iff.1 hj).1) hj
 simp [idx,this]
theorem zba {α:Type} (p:α→Bool) (xs:List α):(idx p xs = -1∧∀ x∈xs,p x=false)∨∃ (k:Nat) (x:α),idx p xs=(k:Int)∧xs[k]? = some x∧p x=true∧zbH p xs k:=by
 cases h:xs.findIdx? p with
 | none =>
   refine .inl ⟨by simp [idx,h],?_⟩
   rw [List.findIdx?_eq_none_iff] at h
   intro x hx;simpa using h x hx
 | some k =>
   rw [List.findIdx?_eq_some_iff_getElem] at h
   obtain ⟨hk,h1,h2⟩:=h
   refine .inr ⟨k,xs[k],?_,H hk,h1,fun j y hj hy => ?_⟩
   · exact zbk (x:=xs[k]) (fun j y hj hy=>by
      have:=h2 j hj
      rw [H (by omega)] at hy
      cases hy;simpa using this) (H hk) h1
   · have:=h2 j hj
     rw [H (by omega)] at hy
     cases hy;simpa using this
theorem ze9 {α:Type} (p:α→Bool) (xs:List α) : -1≤idx p xs∧idx p xs<(xs.length:Int):=by
 rcases zba p xs with ⟨h,_⟩ | ⟨k,x,h,hx,_⟩
 · rw [h];omega
 · have:=(List.getElem?_eq_some_iff.1 hx).1
   rw [h];omega
def zaU (n:Int) (w:World) (e:Ending) (w':World):Prop:=e = .returned (.int .i64 n)∧Below w.heap.size w w'
def zdL {α:Type} (p:α→Bool) (xs:List α) (B:Nat) (w1:World) (i:Value) (wr:World):Prop:=∃ k:Nat,k≤xs.length∧i = .int .i64 k∧zbH p xs k∧Below B w1 wr
def MapS (P:Program) (k e:TypeId) (w:World) (b n:Nat) (f:ByteArray→Option Value):Prop:=
 ∃ D:DataW Unit,w.ownsMap P k (plainElem P e) b n D∧∀ s:ByteArray,s.size≤maxLen→Maps.has D (.string s.data.toList)=(f s).isSome∧∀ v,f s=some v→∃ y:DataW Unit × List MemPlace,plainElem P e v=some y∧∀ zd,D.atKey (.string s.data.toList) zd=y.1
section
variable {P : Program} {k e t : TypeId} {w w' : World} {b n : Nat} {f : ByteArray → Option Value}
theorem MapS.made (P:Program) (k e:TypeId) (w:World):MapS P k e (w.alloc (.map #[] 0)) w.heap.size 0 (fun _=>l):=
 ⟨.map [],World.ownsMap_made w P k _,fun s _=>⟨rfl,fun v hv=>by cases hv⟩⟩
theorem MapS.block (h:MapS P k e w b n f):b<w.heap.size:=by
 obtain ⟨D,⟨es,clock,hb,_⟩,_⟩:=h
 rcases Nat.lt_or_ge b w.heap.size with hlt | hge
 · exact hlt
 · rw [Array.getElem?_eq_none hge] at hb;cases hb
theorem MapS.kept (h:MapS P k e w b n f) (hb:w'.heap[b]? = w.heap[b]?):MapS P k e w' b n f:=by
 obtain ⟨D,⟨es,clock,hb',F,hs,hD⟩,hf⟩:=h;exact ⟨D,⟨es,clock,hb.trans hb',F,hs,hD⟩,hf⟩
theorem MapS.below (h:MapS P k e w b n f) {B:Nat} (hb:Below B w w') (hB:b<B):MapS P k e w' b n f:=h.kept (hb.block b hB)
theorem MapS.drew (h:MapS P k e w b n f):MapS P k e w.drew b n f:=h.kept rfl
theorem MapS.alloc (h:MapS P k e w b n f) (o:Obj):MapS P k e (w.alloc o) b n f:=h.kept (Below.heap_alloc w o b h.block)
theorem MapS.more (h:MapS P k e w b n f) {n':Nat} (hn:n≤n'):MapS P k e w b n' f:=by
 obtain ⟨D,h1,h2⟩:=h;exact ⟨D,h1.mono hn,h2⟩
theorem zgD {v v':Value} {y y':DataW Unit × List MemPlace} (h:plainElem P e v=some y) (h':plainElem P e v'=some y') (hy:y.1=y'.1):v=v':=by
 unfold plainElem at h h'
 cases hu:P.underlying e with
 | none=>rw [hu] at h;simp at h
 | some d =>
   rw [hu] at h h'
   split at h
   · split at h'
     · cases h;cases h';simp at hy;rw [hy]
     · simp_all
     · simp_all
     · cases h'
   · rename_i q q' a hq
     split at h'
     · simp_all
     · rename_i q2 q2' a2 hq2
       split at h
       · split at h'
         · rename_i h1 h2
           cases h;cases h'
           simp only [Option.some.injEq] at hq hq2
           simp at hy
           obtain ⟨rfl,_⟩:=h1
           obtain ⟨rfl,_⟩:=h2
           rw [hy.1,hy.2]
         · cases h'
       · cases h
     · simp_all
     · cases h'
   · split at h'
     · simp_all
     · simp_all
     · split at h
       · split at h'
         · cases h;cases h'
           simp at hy
           exact congrArg g (WideShapes.bytes_inj (by simp [hy]))
         · cases h'
       · cases h
     · cases h'
   · cases h
theorem MapS.look (h:MapS P k e w b n f) (hk:P.underlying k=some .string) (ht:P.underlying t=some (.map k e)) {z:Value} (hz:(zeroValue e).run P w = .ok z w) {s:ByteArray} (hs:s.size≤maxLen) (c:Bool) :
 (Instr.lookup t (.map (some b)) (g s) c).run P w = .ok (if c then .tuple #[(f s).getD z,I (f s).isSome] else (f s).getD z) w:=by
 obtain ⟨D,⟨es,clock,hb,F,_,hD⟩,hf⟩:=h;obtain ⟨hhas,hval⟩:=hf s hs
 rcases Maps.fit_look c (Maps.string_keyed hk) ht hz hb F (WideMaps.keyOf_string_mk hk hs) with ⟨hrun,_,hat⟩ | ⟨e0,y,_,_,hrun,hR,hat,_⟩
 · rw [← hD] at hat
   have h1:=Maps.has_false_of_atKey hat
   rw [h1] at hhas
   cases hfs:f s with
   | none=>rw [hrun];simp
   | some v=>rw [hfs] at hhas;simp at hhas
 · rw [← hD] at hat
   have h1:=Maps.has_true_of_atKey hat
   rw [h1] at hhas
   cases hfs:f s with
   | none=>rw [hfs] at hhas;simp at hhas
   | some v =>
     obtain ⟨y',hy',hat'⟩:=hval v hfs
     have:e0.val=v:=zgD hR hy' (by rw [← hat y.1,← hat' y.1])
     rw [hrun,this];simp
def putS (f:ByteArray→Option Value) (s:ByteArray) (v:Value):ByteArray→Option Value:=fun x=>if x.toList=s.toList then some v else f x
theorem zbC (s:ByteArray):s.toList=s.data.toList:=by
 exact ByteArray.toList_eq s
theorem MapS.store (h:MapS P k e w b n f) (hk:P.underlying k=some .string) (ht:P.underlying t=some (.map k e)) (hn:n<maxLen) {s:ByteArray} (hs:s.size≤maxLen) {v:Value} {y:DataW Unit × List MemPlace} (hv:plainElem P e v=some y) :
 ∃ w',(Instr.mapUpdate t (.map (some b)) (g s) v).run P w = .ok () w'∧MapS P k e w' b (n+1) (putS f s v)∧w.grownBy w' (some b):=by
 obtain ⟨D,hown,hf⟩:=h;obtain ⟨w',hrun,hown',hturn⟩:=hown.store (Maps.string_keyed hk) ht hn (WideMaps.keyOf_string_mk hk hs) (d:=y.1) (ps:=y.2) hv;refine ⟨w',hrun,⟨_,hown',fun x hx => ?_⟩,hturn.grown⟩
 have hkl:WideAt.IsKeyLit (.string s.data.toList):=(Maps.string_keyed (P:=P) hk).key (WideMaps.keyOf_string_mk hk hs)
 by_cases hxs:x.toList=s.toList
 · have he:x.data.toList=s.data.toList:=by rw [← zbC,← zbC,hxs]
   simp only [putS,if_pos hxs]
   rw [he]
   refine ⟨by rw [Maps.has_put_same hown.isMap hkl];rfl,fun v' hv' => ?_⟩
   cases hv'
   exact ⟨y,hv,fun zd=>Maps.atKey_put_same hown.isMap hkl _ _⟩
 · have hne:(Lit.string x.data.toList) ≠ .string s.data.toList:=by
    intro he;injection he with he
    exact hxs (by rw [zbC,zbC,he])
   simp only [putS,if_neg hxs]
   obtain ⟨h1,h2⟩:=hf x hx
   refine ⟨by rw [Maps.has_put_other hne];exact h1,fun v' hv' => ?_⟩
   obtain ⟨y',hy',hat⟩:=h2 v' hv'
   exact ⟨y',hy',fun zd=>by rw [Maps.atKey_put_other hne];exact hat zd⟩
end
def same (a b:ByteArray):Bool:=a.toList == b.toList
theorem same_comm (a b:ByteArray):same a b=same b a:=by unfold same;exact BEq.comm
theorem zdD {a b:ByteArray}:same a b=true↔a.toList=b.toList:=by unfold same;simp
def seen (xs:List ByteArray) (k:Nat) (s:ByteArray):Bool:=(xs.take k).any fun y=>same y s
def zk3 (xs:List ByteArray) (k:Nat):Bool:=match xs[k]? with
 | some x=>seen xs k x
 | Option.none=>false
def dupB (xs:List ByteArray):Bool:=(List.range xs.length).any (zk3 xs)
def zit (xs:List ByteArray) (k:Nat):Prop:=∀ j,j<k→zk3 xs j=false
theorem zfc (xs:List ByteArray):zit xs 0:=fun _ h=>absurd h (L _)
theorem zfb {xs:List ByteArray} {k:Nat} {x:ByteArray} (h:zit xs k) (hx:xs[k]? = some x) (hs:seen xs k x=false):zit xs (k+1):=by
 intro j hj
 rcases Nat.lt_succ_iff_lt_or_eq.1 hj with h' | rfl
 · exact h j h'
 · simp [zk3,hx,hs]
theorem zjI {xs:List ByteArray} {k:Nat} {x:ByteArray} (hx:xs[k]? = some x) (hs:seen xs k x=true):dupB xs=true:=by
 have hk:k<xs.length:=(List.getElem?_eq_some_iff.1 hx).1;unfold dupB;rw [List.any_eq_true];exact ⟨k,by simpa using hk,by simp [zk3,hx,hs]⟩
theorem zlI {xs:List ByteArray} (h:zit xs xs.length):dupB xs=false:=by
 unfold dupB;rw [List.any_eq_false];intro j hj;rw [h j (by simpa using hj)];simp
def zcb (xs:List ByteArray) (k:Nat) (s:ByteArray):Option Value:=if seen xs k s then some (I true) else l
theorem zbu (xs:List ByteArray):zcb xs 0=fun _=>l:=by funext s;simp [zcb,seen]
theorem zko {xs:List ByteArray} {k:Nat} {x:ByteArray} (hx:xs[k]? = some x) (s:ByteArray):seen xs (k+1) s=(seen xs k s || same x s):=by
 unfold seen;rw [List.take_add_one,hx];simp
theorem zbt {xs:List ByteArray} {k:Nat} {x:ByteArray} (hx:xs[k]? = some x):zcb xs (k+1)=putS (zcb xs k) x (I true):=by
 funext s
 unfold zcb putS;rw [zko hx]
 by_cases hs:s.toList=x.toList
 · have:same x s=true:=zdD.2 hs.symm
   simp [hs,this]
 · have:same x s=false:=by
    cases h':same x s with
    | false=>rfl
    | true=>exact absurd (zdD.1 h').symm hs
   simp [hs,this]
theorem zc4 (xs:List ByteArray) (k:Nat) (s:ByteArray):(zcb xs k s).getD (I false) = I (seen xs k s):=by
 unfold zcb;cases seen xs k s <;> rfl
theorem zdE (xs:List ByteArray) (k:Nat) (s:ByteArray):seen xs k s=decide (0≤idx (fun r=>same r s) (xs.take k)):=by
 unfold seen
 rcases zba (fun r=>same r s) (xs.take k) with ⟨h,h'⟩ | ⟨j,x,h,hx,hp,_⟩
 · rw [h]
   have:((xs.take k).any fun y=>same y s)=false:=by
    rw [List.any_eq_false];intro y hy;simp [h' y hy]
   rw [this];rfl
 · rw [h]
   have:((xs.take k).any fun y=>same y s)=true:=List.any_eq_true.2 ⟨x,List.mem_of_getElem? hx,hp⟩
   rw [this];simp
def zbI (f:Nat→Int):Nat→Int
 | 0=>0
 | n+1=>if zbI f n=0 then f n else zbI f n
def zaN (f:Nat→Int) (k:Nat):Prop:=∀ j,j<k→f j=0
theorem zaW (f:Nat→Int):zaN f 0:=fun _ h=>absurd h (L _)
theorem zaV {f:Nat→Int} {k:Nat} (h:zaN f k) (hk:f k=0):zaN f (k+1):=by
 intro j hj
 rcases Nat.lt_succ_iff_lt_or_eq.1 hj with h' | rfl
 · exact h j h'
 · exact hk
theorem zbp {f:Nat→Int}:∀ {n:Nat},zaN f n→zbI f n=0
 | 0,_=>rfl
 | n+1,h=>by
   have:=zbp (f:=f) (n:=n) fun j hj=>h j (by omega)
   simp [zbI,this,h n (by omega)]
theorem zbJ {f:Nat→Int} {k:Nat} (h:zaN f k) (hk:f k≠0):∀ {n:Nat},k<n→zbI f n=f k
 | 0,hn=>absurd hn (L _)
 | n+1,hn=>by
   rcases Nat.lt_succ_iff_lt_or_eq.1 hn with h' | rfl
   · have:=zbJ h hk h'
     simp [zbI,this,hk]
   · simp [zbI,zbp h]
end Go.Proofs.YtjkimieapfbhbaaGreatDoor
