/-
  The kind of an instruction.
-/
import Derived.Test.YtcikenlflcofbaaGreatDoorVfK
set_option maxRecDepth 100000
set_option maxHeartbeats 8000000
namespace Go.Proofs.YtcikenlflcofbaaGreatDoor
open Go.RowKit
def IaC (_:World) (_:Nat→Prop) (cs:List Value) (x:Int):Prop:=cs=[.int .i64 x]
theorem IaC.mono:zdH IaC:=fun _ _ _ _ _ _ _ _ h=>h
theorem iaAt {w:World} {S:Nat→Prop} {A:Option Addr} {n:Nat} {l:List Int} (h:Rw IaC 1 w S A n l) {k:Nat} (hk:k<n) :
    ∃ b o x,A=some ⟨b,o,none⟩∧S b∧l[k]? = some x∧w.cell? ⟨b,o+k,none⟩=some (.int .i64 x):=by
  obtain ⟨b,o,cs,s,e,hb,hx,_,rfl,hat⟩:=h.at_ hk;exact ⟨b,o,s,e,hb,hx,by simpa using hat 0 _ rfl⟩
def RetKind (r:Option Int) (w:World) (e:Ending) (w':World):Prop:=
  ∃ k b,e = .returned (.tuple #[.int .i64 k,.bool b])∧Below w.heap.size w w'∧(b=r.isSome)∧∀ z,r=some z→k=z
theorem RetKind.some_ {r:Option Int} {k:Int} {w w':World} (h:r=some k) (hb:Below w.heap.size w w'):RetKind r w (.returned (.tuple #[.int .i64 k,.bool true])) w' :=
  ⟨k,true,rfl,hb,by rw [h];rfl,fun z hz=>by rw [h] at hz;cases hz;rfl⟩
theorem RetKind.none_ {r:Option Int} (k:Int) {w w':World} (h:r=none) (hb:Below w.heap.size w w'):RetKind r w (.returned (.tuple #[.int .i64 k,.bool false])) w' :=
  ⟨k,false,rfl,hb,by rw [h];rfl,fun z hz=>by rw [h] at hz;cases hz⟩
def KiR (W:World) (B:Nat) (n:Nat) (P:Nat→Prop) (g:Nat) (v:Value) (wr:World):Prop:=∃ k:Nat,k≤n∧n-k<g∧v = .int .i64 (k:Int)∧P k∧Below B W wr
theorem zhE {w:World} {vb:Nat} {p:Pg} {l:Pl} {sv:Value} {v:Vs} (h:VfW w vb p l sv v) (op a:Int) (A:Option Addr) (c:Nat) (args:List Int) (ha:args.length≤c) (hc:c≤maxLen) (hr:Rw IaC 1 w (Old w) A args.length args)
    (ho:0≤opnP op) (h16:op≠16) (h30:op≠30) :
    Calls Tryz.prog 97 #[.pointer (some ⟨vb,0,none⟩),.agg #[.int .i64 op,.int .i64 a],.slice A args.length c] w (RetKind (kndP p ⟨op,a⟩ args) w):=by
  have hlt:=h.lt;have HB:=Hi (zaa w (Obj.cells #[.int .i64 op,.int .i64 a] 76));have HR:=Hi hr;unfold maxLen at hc;obtain ⟨r,hrr⟩:∃ r,kndP p ⟨op,a⟩ args=r:=⟨_,rfl⟩;have HY0:(args.all fun k=>decide (k=(sigP op).1))=true→r=some (sigP op).2:=fun q=>by rw [← hrr];unfold kndP;dsimp only;rw [if_neg h16,if_pos q,if_neg h30]
  have HN0:(args.all fun k=>decide (k=(sigP op).1))=false→r=Option.none:=fun q=>by rw [← hrr];unfold kndP;dsimp only;rw [if_neg h16,if_neg (by rw [q];decide)]
  rw [hrr]
  have hop:op=1∨op=2∨op=4∨op=5∨op=6∨op=7∨op=8∨op=9∨op=10∨op=11∨op=12∨op=13∨op=14∨op=15∨op=17∨op=18∨op=19∨op=20∨op=21∨op=22∨op=31∨op=32:=by
    unfold opnP at ho
    split at ho
    · omega
    split at ho
    · omega
    split at ho
    · omega
    · omega
  clear hrr hr ho h16 h30 h;obtain ⟨OO,hOO⟩:∃ O,(sigP op).1=O:=⟨_,rfl⟩;obtain ⟨VV,hVV⟩:∃ V,(sigP op).2=V:=⟨_,rfl⟩;rw [hOO,hVV] at HY0;rw [hOO] at HN0;have HY:=Hi HY0;have HNo:=Hi HN0;clear HY0 HN0
  rcases hop with rfl | rfl | rfl | rfl | rfl | rfl | rfl | rfl | rfl | rfl | rfl | rfl | rfl | rfl | rfl | rfl | rfl | rfl | rfl | rfl | rfl | rfl
  · obtain rfl:(1:Int)=OO:=hOO
    obtain rfl:(1:Int)=VV:=hVV
    go_enter Tryz.func97,Tryz.ntmps97
    go_wp2
    go_loopg [59] (args.length+1) (fun g v wr=>KiR w w.heap.size args.length (fun k=>∀ j,j<k→args.getD j 0=(1:Int)) g v wr)
    case atStart=>exact ⟨0,Nat.zero_le _,by omega,rfl,fun j hj=>absurd hj (Nat.not_lt_zero _),HB.out⟩
    case round =>
      obtain ⟨k,hk,hg,rfl,hP,hbel⟩:=hrel
      have HPP:=Hi hP
      clear hP
      by_cases hlt:k<args.length
      case neg =>
        have HE:=Hi (HY.out (List.all_eq_true.2 fun x hx=>by
          obtain ⟨j,hj,rfl⟩:=List.getElem_of_mem hx
          have:=HPP.out j (by omega)
          rw [List.getD_eq_getElem?_getD,List.getElem?_eq_getElem hj] at this
          simpa using this))
        have HBL:=Hi hbel
        clear hbel
        go_wp2
        go_ret2
        exact RetKind.some_ HE.out HBL.out
      obtain ⟨b,o,x,hA,hSb,hx,y0⟩:=iaAt (HR.out.mono IaC.mono (fun _ q=>q) (zab hbel fun _ q=>q)) hlt
      subst hA
      have hxd:args.getD k 0=x:=by rw [List.getD_eq_getElem?_getD,hx];rfl
      have HXM:=Hi (List.mem_of_getElem? hx)
      have HXD:=Hi hxd
      have HBL:=Hi hbel
      clear hx hxd hbel
      by_cases hxo:x=(1:Int)
      case neg =>
        have hne:(x != (1:Int))=true:=by simpa using hxo
        have HE:=Hi (HNo.out (by
          rw [List.all_eq_false]
          exact ⟨x,HXM.out,by simpa using hxo⟩))
        clear hxo
        go_wp2
        go_ret2
        exact RetKind.none_ 0 HE.out HBL.out
      subst hxo
      go_wp2
      go_roundg (args.length-k)
      case measure=>omega
      case rel=>exact ⟨k+1,by omega,by omega,by go_num,fun j hj=>by
        rcases Nat.lt_succ_iff_lt_or_eq.1 hj with q | rfl
        · exact HPP.out j q
        · exact HXD.out,HBL.out⟩
  · obtain rfl:(2:Int)=OO:=hOO
    obtain rfl:(2:Int)=VV:=hVV
    go_enter Tryz.func97,Tryz.ntmps97
    go_wp2
    go_loopg [59] (args.length+1) (fun g v wr=>KiR w w.heap.size args.length (fun k=>∀ j,j<k→args.getD j 0=(2:Int)) g v wr)
    case atStart=>exact ⟨0,Nat.zero_le _,by omega,rfl,fun j hj=>absurd hj (Nat.not_lt_zero _),HB.out⟩
    case round =>
      obtain ⟨k,hk,hg,rfl,hP,hbel⟩:=hrel
      have HPP:=Hi hP
      clear hP
      by_cases hlt:k<args.length
      case neg =>
        have HE:=Hi (HY.out (List.all_eq_true.2 fun x hx=>by
          obtain ⟨j,hj,rfl⟩:=List.getElem_of_mem hx
          have:=HPP.out j (by omega)
          rw [List.getD_eq_getElem?_getD,List.getElem?_eq_getElem hj] at this
          simpa using this))
        have HBL:=Hi hbel
        clear hbel
        go_wp2
        go_ret2
        exact RetKind.some_ HE.out HBL.out
      obtain ⟨b,o,x,hA,hSb,hx,y0⟩:=iaAt (HR.out.mono IaC.mono (fun _ q=>q) (zab hbel fun _ q=>q)) hlt
      subst hA
      have hxd:args.getD k 0=x:=by rw [List.getD_eq_getElem?_getD,hx];rfl
      have HXM:=Hi (List.mem_of_getElem? hx)
      have HXD:=Hi hxd
      have HBL:=Hi hbel
      clear hx hxd hbel
      by_cases hxo:x=(2:Int)
      case neg =>
        have hne:(x != (2:Int))=true:=by simpa using hxo
        have HE:=Hi (HNo.out (by
          rw [List.all_eq_false]
          exact ⟨x,HXM.out,by simpa using hxo⟩))
        clear hxo
        go_wp2
        go_ret2
        exact RetKind.none_ 0 HE.out HBL.out
      subst hxo
      go_wp2
      go_roundg (args.length-k)
      case measure=>omega
      case rel=>exact ⟨k+1,by omega,by omega,by go_num,fun j hj=>by
        rcases Nat.lt_succ_iff_lt_or_eq.1 hj with q | rfl
        · exact HPP.out j q
        · exact HXD.out,HBL.out⟩
  · obtain rfl:(1:Int)=OO:=hOO
    obtain rfl:(1:Int)=VV:=hVV
    go_enter Tryz.func97,Tryz.ntmps97
    go_wp2
    go_loopg [59] (args.length+1) (fun g v wr=>KiR w w.heap.size args.length (fun k=>∀ j,j<k→args.getD j 0=(1:Int)) g v wr)
    case atStart=>exact ⟨0,Nat.zero_le _,by omega,rfl,fun j hj=>absurd hj (Nat.not_lt_zero _),HB.out⟩
    case round =>
      obtain ⟨k,hk,hg,rfl,hP,hbel⟩:=hrel
      have HPP:=Hi hP
      clear hP
      by_cases hlt:k<args.length
      case neg =>
        have HE:=Hi (HY.out (List.all_eq_true.2 fun x hx=>by
          obtain ⟨j,hj,rfl⟩:=List.getElem_of_mem hx
          have:=HPP.out j (by omega)
          rw [List.getD_eq_getElem?_getD,List.getElem?_eq_getElem hj] at this
          simpa using this))
        have HBL:=Hi hbel
        clear hbel
        go_wp2
        go_ret2
        exact RetKind.some_ HE.out HBL.out
      obtain ⟨b,o,x,hA,hSb,hx,y0⟩:=iaAt (HR.out.mono IaC.mono (fun _ q=>q) (zab hbel fun _ q=>q)) hlt
      subst hA
      have hxd:args.getD k 0=x:=by rw [List.getD_eq_getElem?_getD,hx];rfl
      have HXM:=Hi (List.mem_of_getElem? hx)
      have HXD:=Hi hxd
      have HBL:=Hi hbel
      clear hx hxd hbel
      by_cases hxo:x=(1:Int)
      case neg =>
        have hne:(x != (1:Int))=true:=by simpa using hxo
        have HE:=Hi (HNo.out (by
          rw [List.all_eq_false]
          exact ⟨x,HXM.out,by simpa using hxo⟩))
        clear hxo
        go_wp2
        go_ret2
        exact RetKind.none_ 0 HE.out HBL.out
      subst hxo
      go_wp2
      go_roundg (args.length-k)
      case measure=>omega
      case rel=>exact ⟨k+1,by omega,by omega,by go_num,fun j hj=>by
        rcases Nat.lt_succ_iff_lt_or_eq.1 hj with q | rfl
        · exact HPP.out j q
        · exact HXD.out,HBL.out⟩
  · obtain rfl:(1:Int)=OO:=hOO
    obtain rfl:(1:Int)=VV:=hVV
    go_enter Tryz.func97,Tryz.ntmps97
    go_wp2
    go_loopg [59] (args.length+1) (fun g v wr=>KiR w w.heap.size args.length (fun k=>∀ j,j<k→args.getD j 0=(1:Int)) g v wr)
    case atStart=>exact ⟨0,Nat.zero_le _,by omega,rfl,fun j hj=>absurd hj (Nat.not_lt_zero _),HB.out⟩
    case round =>
      obtain ⟨k,hk,hg,rfl,hP,hbel⟩:=hrel
      have HPP:=Hi hP
      clear hP
      by_cases hlt:k<args.length
      case neg =>
        have HE:=Hi (HY.out (List.all_eq_true.2 fun x hx=>by
          obtain ⟨j,hj,rfl⟩:=List.getElem_of_mem hx
          have:=HPP.out j (by omega)
          rw [List.getD_eq_getElem?_getD,List.getElem?_eq_getElem hj] at this
          simpa using this))
        have HBL:=Hi hbel
        clear hbel
        go_wp2
        go_ret2
        exact RetKind.some_ HE.out HBL.out
      obtain ⟨b,o,x,hA,hSb,hx,y0⟩:=iaAt (HR.out.mono IaC.mono (fun _ q=>q) (zab hbel fun _ q=>q)) hlt
      subst hA
      have hxd:args.getD k 0=x:=by rw [List.getD_eq_getElem?_getD,hx];rfl
      have HXM:=Hi (List.mem_of_getElem? hx)
      have HXD:=Hi hxd
      have HBL:=Hi hbel
      clear hx hxd hbel
      by_cases hxo:x=(1:Int)
      case neg =>
        have hne:(x != (1:Int))=true:=by simpa using hxo
        have HE:=Hi (HNo.out (by
          rw [List.all_eq_false]
          exact ⟨x,HXM.out,by simpa using hxo⟩))
        clear hxo
        go_wp2
        go_ret2
        exact RetKind.none_ 0 HE.out HBL.out
      subst hxo
      go_wp2
      go_roundg (args.length-k)
      case measure=>omega
      case rel=>exact ⟨k+1,by omega,by omega,by go_num,fun j hj=>by
        rcases Nat.lt_succ_iff_lt_or_eq.1 hj with q | rfl
        · exact HPP.out j q
        · exact HXD.out,HBL.out⟩
  · obtain rfl:(1:Int)=OO:=hOO
    obtain rfl:(1:Int)=VV:=hVV
    go_enter Tryz.func97,Tryz.ntmps97
    go_wp2
    go_loopg [59] (args.length+1) (fun g v wr=>KiR w w.heap.size args.length (fun k=>∀ j,j<k→args.getD j 0=(1:Int)) g v wr)
    case atStart=>exact ⟨0,Nat.zero_le _,by omega,rfl,fun j hj=>absurd hj (Nat.not_lt_zero _),HB.out⟩
    case round =>
      obtain ⟨k,hk,hg,rfl,hP,hbel⟩:=hrel
      have HPP:=Hi hP
      clear hP
      by_cases hlt:k<args.length
      case neg =>
        have HE:=Hi (HY.out (List.all_eq_true.2 fun x hx=>by
          obtain ⟨j,hj,rfl⟩:=List.getElem_of_mem hx
          have:=HPP.out j (by omega)
          rw [List.getD_eq_getElem?_getD,List.getElem?_eq_getElem hj] at this
          simpa using this))
        have HBL:=Hi hbel
        clear hbel
        go_wp2
        go_ret2
        exact RetKind.some_ HE.out HBL.out
      obtain ⟨b,o,x,hA,hSb,hx,y0⟩:=iaAt (HR.out.mono IaC.mono (fun _ q=>q) (zab hbel fun _ q=>q)) hlt
      subst hA
      have hxd:args.getD k 0=x:=by rw [List.getD_eq_getElem?_getD,hx];rfl
      have HXM:=Hi (List.mem_of_getElem? hx)
      have HXD:=Hi hxd
      have HBL:=Hi hbel
      clear hx hxd hbel
      by_cases hxo:x=(1:Int)
      case neg =>
        have hne:(x != (1:Int))=true:=by simpa using hxo
        have HE:=Hi (HNo.out (by
          rw [List.all_eq_false]
          exact ⟨x,HXM.out,by simpa using hxo⟩))
        clear hxo
        go_wp2
        go_ret2
        exact RetKind.none_ 0 HE.out HBL.out
      subst hxo
      go_wp2
      go_roundg (args.length-k)
      case measure=>omega
      case rel=>exact ⟨k+1,by omega,by omega,by go_num,fun j hj=>by
        rcases Nat.lt_succ_iff_lt_or_eq.1 hj with q | rfl
        · exact HPP.out j q
        · exact HXD.out,HBL.out⟩
  · obtain rfl:(1:Int)=OO:=hOO
    obtain rfl:(1:Int)=VV:=hVV
    go_enter Tryz.func97,Tryz.ntmps97
    go_wp2
    go_loopg [59] (args.length+1) (fun g v wr=>KiR w w.heap.size args.length (fun k=>∀ j,j<k→args.getD j 0=(1:Int)) g v wr)
    case atStart=>exact ⟨0,Nat.zero_le _,by omega,rfl,fun j hj=>absurd hj (Nat.not_lt_zero _),HB.out⟩
    case round =>
      obtain ⟨k,hk,hg,rfl,hP,hbel⟩:=hrel
      have HPP:=Hi hP
      clear hP
      by_cases hlt:k<args.length
      case neg =>
        have HE:=Hi (HY.out (List.all_eq_true.2 fun x hx=>by
          obtain ⟨j,hj,rfl⟩:=List.getElem_of_mem hx
          have:=HPP.out j (by omega)
          rw [List.getD_eq_getElem?_getD,List.getElem?_eq_getElem hj] at this
          simpa using this))
        have HBL:=Hi hbel
        clear hbel
        go_wp2
        go_ret2
        exact RetKind.some_ HE.out HBL.out
      obtain ⟨b,o,x,hA,hSb,hx,y0⟩:=iaAt (HR.out.mono IaC.mono (fun _ q=>q) (zab hbel fun _ q=>q)) hlt
      subst hA
      have hxd:args.getD k 0=x:=by rw [List.getD_eq_getElem?_getD,hx];rfl
      have HXM:=Hi (List.mem_of_getElem? hx)
      have HXD:=Hi hxd
      have HBL:=Hi hbel
      clear hx hxd hbel
      by_cases hxo:x=(1:Int)
      case neg =>
        have hne:(x != (1:Int))=true:=by simpa using hxo
        have HE:=Hi (HNo.out (by
          rw [List.all_eq_false]
          exact ⟨x,HXM.out,by simpa using hxo⟩))
        clear hxo
        go_wp2
        go_ret2
        exact RetKind.none_ 0 HE.out HBL.out
      subst hxo
      go_wp2
      go_roundg (args.length-k)
      case measure=>omega
      case rel=>exact ⟨k+1,by omega,by omega,by go_num,fun j hj=>by
        rcases Nat.lt_succ_iff_lt_or_eq.1 hj with q | rfl
        · exact HPP.out j q
        · exact HXD.out,HBL.out⟩
  · obtain rfl:(2:Int)=OO:=hOO
    obtain rfl:(1:Int)=VV:=hVV
    go_enter Tryz.func97,Tryz.ntmps97
    go_wp2
    go_loopg [59] (args.length+1) (fun g v wr=>KiR w w.heap.size args.length (fun k=>∀ j,j<k→args.getD j 0=(2:Int)) g v wr)
    case atStart=>exact ⟨0,Nat.zero_le _,by omega,rfl,fun j hj=>absurd hj (Nat.not_lt_zero _),HB.out⟩
    case round =>
      obtain ⟨k,hk,hg,rfl,hP,hbel⟩:=hrel
      have HPP:=Hi hP
      clear hP
      by_cases hlt:k<args.length
      case neg =>
        have HE:=Hi (HY.out (List.all_eq_true.2 fun x hx=>by
          obtain ⟨j,hj,rfl⟩:=List.getElem_of_mem hx
          have:=HPP.out j (by omega)
          rw [List.getD_eq_getElem?_getD,List.getElem?_eq_getElem hj] at this
          simpa using this))
        have HBL:=Hi hbel
        clear hbel
        go_wp2
        go_ret2
        exact RetKind.some_ HE.out HBL.out
      obtain ⟨b,o,x,hA,hSb,hx,y0⟩:=iaAt (HR.out.mono IaC.mono (fun _ q=>q) (zab hbel fun _ q=>q)) hlt
      subst hA
      have hxd:args.getD k 0=x:=by rw [List.getD_eq_getElem?_getD,hx];rfl
      have HXM:=Hi (List.mem_of_getElem? hx)
      have HXD:=Hi hxd
      have HBL:=Hi hbel
      clear hx hxd hbel
      by_cases hxo:x=(2:Int)
      case neg =>
        have hne:(x != (2:Int))=true:=by simpa using hxo
        have HE:=Hi (HNo.out (by
          rw [List.all_eq_false]
          exact ⟨x,HXM.out,by simpa using hxo⟩))
        clear hxo
        go_wp2
        go_ret2
        exact RetKind.none_ 0 HE.out HBL.out
      subst hxo
      go_wp2
      go_roundg (args.length-k)
      case measure=>omega
      case rel=>exact ⟨k+1,by omega,by omega,by go_num,fun j hj=>by
        rcases Nat.lt_succ_iff_lt_or_eq.1 hj with q | rfl
        · exact HPP.out j q
        · exact HXD.out,HBL.out⟩
  · obtain rfl:(2:Int)=OO:=hOO
    obtain rfl:(1:Int)=VV:=hVV
    go_enter Tryz.func97,Tryz.ntmps97
    go_wp2
    go_loopg [59] (args.length+1) (fun g v wr=>KiR w w.heap.size args.length (fun k=>∀ j,j<k→args.getD j 0=(2:Int)) g v wr)
    case atStart=>exact ⟨0,Nat.zero_le _,by omega,rfl,fun j hj=>absurd hj (Nat.not_lt_zero _),HB.out⟩
    case round =>
      obtain ⟨k,hk,hg,rfl,hP,hbel⟩:=hrel
      have HPP:=Hi hP
      clear hP
      by_cases hlt:k<args.length
      case neg =>
        have HE:=Hi (HY.out (List.all_eq_true.2 fun x hx=>by
          obtain ⟨j,hj,rfl⟩:=List.getElem_of_mem hx
          have:=HPP.out j (by omega)
          rw [List.getD_eq_getElem?_getD,List.getElem?_eq_getElem hj] at this
          simpa using this))
        have HBL:=Hi hbel
        clear hbel
        go_wp2
        go_ret2
        exact RetKind.some_ HE.out HBL.out
      obtain ⟨b,o,x,hA,hSb,hx,y0⟩:=iaAt (HR.out.mono IaC.mono (fun _ q=>q) (zab hbel fun _ q=>q)) hlt
      subst hA
      have hxd:args.getD k 0=x:=by rw [List.getD_eq_getElem?_getD,hx];rfl
      have HXM:=Hi (List.mem_of_getElem? hx)
      have HXD:=Hi hxd
      have HBL:=Hi hbel
      clear hx hxd hbel
      by_cases hxo:x=(2:Int)
      case neg =>
        have hne:(x != (2:Int))=true:=by simpa using hxo
        have HE:=Hi (HNo.out (by
          rw [List.all_eq_false]
          exact ⟨x,HXM.out,by simpa using hxo⟩))
        clear hxo
        go_wp2
        go_ret2
        exact RetKind.none_ 0 HE.out HBL.out
      subst hxo
      go_wp2
      go_roundg (args.length-k)
      case measure=>omega
      case rel=>exact ⟨k+1,by omega,by omega,by go_num,fun j hj=>by
        rcases Nat.lt_succ_iff_lt_or_eq.1 hj with q | rfl
        · exact HPP.out j q
        · exact HXD.out,HBL.out⟩
  · obtain rfl:(2:Int)=OO:=hOO
    obtain rfl:(1:Int)=VV:=hVV
    go_enter Tryz.func97,Tryz.ntmps97
    go_wp2
    go_loopg [59] (args.length+1) (fun g v wr=>KiR w w.heap.size args.length (fun k=>∀ j,j<k→args.getD j 0=(2:Int)) g v wr)
    case atStart=>exact ⟨0,Nat.zero_le _,by omega,rfl,fun j hj=>absurd hj (Nat.not_lt_zero _),HB.out⟩
    case round =>
      obtain ⟨k,hk,hg,rfl,hP,hbel⟩:=hrel
      have HPP:=Hi hP
      clear hP
      by_cases hlt:k<args.length
      case neg =>
        have HE:=Hi (HY.out (List.all_eq_true.2 fun x hx=>by
          obtain ⟨j,hj,rfl⟩:=List.getElem_of_mem hx
          have:=HPP.out j (by omega)
          rw [List.getD_eq_getElem?_getD,List.getElem?_eq_getElem hj] at this
          simpa using this))
        have HBL:=Hi hbel
        clear hbel
        go_wp2
        go_ret2
        exact RetKind.some_ HE.out HBL.out
      obtain ⟨b,o,x,hA,hSb,hx,y0⟩:=iaAt (HR.out.mono IaC.mono (fun _ q=>q) (zab hbel fun _ q=>q)) hlt
      subst hA
      have hxd:args.getD k 0=x:=by rw [List.getD_eq_getElem?_getD,hx];rfl
      have HXM:=Hi (List.mem_of_getElem? hx)
      have HXD:=Hi hxd
      have HBL:=Hi hbel
      clear hx hxd hbel
      by_cases hxo:x=(2:Int)
      case neg =>
        have hne:(x != (2:Int))=true:=by simpa using hxo
        have HE:=Hi (HNo.out (by
          rw [List.all_eq_false]
          exact ⟨x,HXM.out,by simpa using hxo⟩))
        clear hxo
        go_wp2
        go_ret2
        exact RetKind.none_ 0 HE.out HBL.out
      subst hxo
      go_wp2
      go_roundg (args.length-k)
      case measure=>omega
      case rel=>exact ⟨k+1,by omega,by omega,by go_num,fun j hj=>by
        rcases Nat.lt_succ_iff_lt_or_eq.1 hj with q | rfl
        · exact HPP.out j q
        · exact HXD.out,HBL.out⟩
  · obtain rfl:(2:Int)=OO:=hOO
    obtain rfl:(2:Int)=VV:=hVV
    go_enter Tryz.func97,Tryz.ntmps97
    go_wp2
    go_loopg [59] (args.length+1) (fun g v wr=>KiR w w.heap.size args.length (fun k=>∀ j,j<k→args.getD j 0=(2:Int)) g v wr)
    case atStart=>exact ⟨0,Nat.zero_le _,by omega,rfl,fun j hj=>absurd hj (Nat.not_lt_zero _),HB.out⟩
    case round =>
      obtain ⟨k,hk,hg,rfl,hP,hbel⟩:=hrel
      have HPP:=Hi hP
      clear hP
      by_cases hlt:k<args.length
      case neg =>
        have HE:=Hi (HY.out (List.all_eq_true.2 fun x hx=>by
          obtain ⟨j,hj,rfl⟩:=List.getElem_of_mem hx
          have:=HPP.out j (by omega)
          rw [List.getD_eq_getElem?_getD,List.getElem?_eq_getElem hj] at this
          simpa using this))
        have HBL:=Hi hbel
        clear hbel
        go_wp2
        go_ret2
        exact RetKind.some_ HE.out HBL.out
      obtain ⟨b,o,x,hA,hSb,hx,y0⟩:=iaAt (HR.out.mono IaC.mono (fun _ q=>q) (zab hbel fun _ q=>q)) hlt
      subst hA
      have hxd:args.getD k 0=x:=by rw [List.getD_eq_getElem?_getD,hx];rfl
      have HXM:=Hi (List.mem_of_getElem? hx)
      have HXD:=Hi hxd
      have HBL:=Hi hbel
      clear hx hxd hbel
      by_cases hxo:x=(2:Int)
      case neg =>
        have hne:(x != (2:Int))=true:=by simpa using hxo
        have HE:=Hi (HNo.out (by
          rw [List.all_eq_false]
          exact ⟨x,HXM.out,by simpa using hxo⟩))
        clear hxo
        go_wp2
        go_ret2
        exact RetKind.none_ 0 HE.out HBL.out
      subst hxo
      go_wp2
      go_roundg (args.length-k)
      case measure=>omega
      case rel=>exact ⟨k+1,by omega,by omega,by go_num,fun j hj=>by
        rcases Nat.lt_succ_iff_lt_or_eq.1 hj with q | rfl
        · exact HPP.out j q
        · exact HXD.out,HBL.out⟩
  · obtain rfl:(2:Int)=OO:=hOO
    obtain rfl:(2:Int)=VV:=hVV
    go_enter Tryz.func97,Tryz.ntmps97
    go_wp2
    go_loopg [59] (args.length+1) (fun g v wr=>KiR w w.heap.size args.length (fun k=>∀ j,j<k→args.getD j 0=(2:Int)) g v wr)
    case atStart=>exact ⟨0,Nat.zero_le _,by omega,rfl,fun j hj=>absurd hj (Nat.not_lt_zero _),HB.out⟩
    case round =>
      obtain ⟨k,hk,hg,rfl,hP,hbel⟩:=hrel
      have HPP:=Hi hP
      clear hP
      by_cases hlt:k<args.length
      case neg =>
        have HE:=Hi (HY.out (List.all_eq_true.2 fun x hx=>by
          obtain ⟨j,hj,rfl⟩:=List.getElem_of_mem hx
          have:=HPP.out j (by omega)
          rw [List.getD_eq_getElem?_getD,List.getElem?_eq_getElem hj] at this
          simpa using this))
        have HBL:=Hi hbel
        clear hbel
        go_wp2
        go_ret2
        exact RetKind.some_ HE.out HBL.out
      obtain ⟨b,o,x,hA,hSb,hx,y0⟩:=iaAt (HR.out.mono IaC.mono (fun _ q=>q) (zab hbel fun _ q=>q)) hlt
      subst hA
      have hxd:args.getD k 0=x:=by rw [List.getD_eq_getElem?_getD,hx];rfl
      have HXM:=Hi (List.mem_of_getElem? hx)
      have HXD:=Hi hxd
      have HBL:=Hi hbel
      clear hx hxd hbel
      by_cases hxo:x=(2:Int)
      case neg =>
        have hne:(x != (2:Int))=true:=by simpa using hxo
        have HE:=Hi (HNo.out (by
          rw [List.all_eq_false]
          exact ⟨x,HXM.out,by simpa using hxo⟩))
        clear hxo
        go_wp2
        go_ret2
        exact RetKind.none_ 0 HE.out HBL.out
      subst hxo
      go_wp2
      go_roundg (args.length-k)
      case measure=>omega
      case rel=>exact ⟨k+1,by omega,by omega,by go_num,fun j hj=>by
        rcases Nat.lt_succ_iff_lt_or_eq.1 hj with q | rfl
        · exact HPP.out j q
        · exact HXD.out,HBL.out⟩
  · obtain rfl:(2:Int)=OO:=hOO
    obtain rfl:(2:Int)=VV:=hVV
    go_enter Tryz.func97,Tryz.ntmps97
    go_wp2
    go_loopg [59] (args.length+1) (fun g v wr=>KiR w w.heap.size args.length (fun k=>∀ j,j<k→args.getD j 0=(2:Int)) g v wr)
    case atStart=>exact ⟨0,Nat.zero_le _,by omega,rfl,fun j hj=>absurd hj (Nat.not_lt_zero _),HB.out⟩
    case round =>
      obtain ⟨k,hk,hg,rfl,hP,hbel⟩:=hrel
      have HPP:=Hi hP
      clear hP
      by_cases hlt:k<args.length
      case neg =>
        have HE:=Hi (HY.out (List.all_eq_true.2 fun x hx=>by
          obtain ⟨j,hj,rfl⟩:=List.getElem_of_mem hx
          have:=HPP.out j (by omega)
          rw [List.getD_eq_getElem?_getD,List.getElem?_eq_getElem hj] at this
          simpa using this))
        have HBL:=Hi hbel
        clear hbel
        go_wp2
        go_ret2
        exact RetKind.some_ HE.out HBL.out
      obtain ⟨b,o,x,hA,hSb,hx,y0⟩:=iaAt (HR.out.mono IaC.mono (fun _ q=>q) (zab hbel fun _ q=>q)) hlt
      subst hA
      have hxd:args.getD k 0=x:=by rw [List.getD_eq_getElem?_getD,hx];rfl
      have HXM:=Hi (List.mem_of_getElem? hx)
      have HXD:=Hi hxd
      have HBL:=Hi hbel
      clear hx hxd hbel
      by_cases hxo:x=(2:Int)
      case neg =>
        have hne:(x != (2:Int))=true:=by simpa using hxo
        have HE:=Hi (HNo.out (by
          rw [List.all_eq_false]
          exact ⟨x,HXM.out,by simpa using hxo⟩))
        clear hxo
        go_wp2
        go_ret2
        exact RetKind.none_ 0 HE.out HBL.out
      subst hxo
      go_wp2
      go_roundg (args.length-k)
      case measure=>omega
      case rel=>exact ⟨k+1,by omega,by omega,by go_num,fun j hj=>by
        rcases Nat.lt_succ_iff_lt_or_eq.1 hj with q | rfl
        · exact HPP.out j q
        · exact HXD.out,HBL.out⟩
  · obtain rfl:(2:Int)=OO:=hOO
    obtain rfl:(2:Int)=VV:=hVV
    go_enter Tryz.func97,Tryz.ntmps97
    go_wp2
    go_loopg [59] (args.length+1) (fun g v wr=>KiR w w.heap.size args.length (fun k=>∀ j,j<k→args.getD j 0=(2:Int)) g v wr)
    case atStart=>exact ⟨0,Nat.zero_le _,by omega,rfl,fun j hj=>absurd hj (Nat.not_lt_zero _),HB.out⟩
    case round =>
      obtain ⟨k,hk,hg,rfl,hP,hbel⟩:=hrel
      have HPP:=Hi hP
      clear hP
      by_cases hlt:k<args.length
      case neg =>
        have HE:=Hi (HY.out (List.all_eq_true.2 fun x hx=>by
          obtain ⟨j,hj,rfl⟩:=List.getElem_of_mem hx
          have:=HPP.out j (by omega)
          rw [List.getD_eq_getElem?_getD,List.getElem?_eq_getElem hj] at this
          simpa using this))
        have HBL:=Hi hbel
        clear hbel
        go_wp2
        go_ret2
        exact RetKind.some_ HE.out HBL.out
      obtain ⟨b,o,x,hA,hSb,hx,y0⟩:=iaAt (HR.out.mono IaC.mono (fun _ q=>q) (zab hbel fun _ q=>q)) hlt
      subst hA
      have hxd:args.getD k 0=x:=by rw [List.getD_eq_getElem?_getD,hx];rfl
      have HXM:=Hi (List.mem_of_getElem? hx)
      have HXD:=Hi hxd
      have HBL:=Hi hbel
      clear hx hxd hbel
      by_cases hxo:x=(2:Int)
      case neg =>
        have hne:(x != (2:Int))=true:=by simpa using hxo
        have HE:=Hi (HNo.out (by
          rw [List.all_eq_false]
          exact ⟨x,HXM.out,by simpa using hxo⟩))
        clear hxo
        go_wp2
        go_ret2
        exact RetKind.none_ 0 HE.out HBL.out
      subst hxo
      go_wp2
      go_roundg (args.length-k)
      case measure=>omega
      case rel=>exact ⟨k+1,by omega,by omega,by go_num,fun j hj=>by
        rcases Nat.lt_succ_iff_lt_or_eq.1 hj with q | rfl
        · exact HPP.out j q
        · exact HXD.out,HBL.out⟩
  · obtain rfl:(2:Int)=OO:=hOO
    obtain rfl:(2:Int)=VV:=hVV
    go_enter Tryz.func97,Tryz.ntmps97
    go_wp2
    go_loopg [59] (args.length+1) (fun g v wr=>KiR w w.heap.size args.length (fun k=>∀ j,j<k→args.getD j 0=(2:Int)) g v wr)
    case atStart=>exact ⟨0,Nat.zero_le _,by omega,rfl,fun j hj=>absurd hj (Nat.not_lt_zero _),HB.out⟩
    case round =>
      obtain ⟨k,hk,hg,rfl,hP,hbel⟩:=hrel
      have HPP:=Hi hP
      clear hP
      by_cases hlt:k<args.length
      case neg =>
        have HE:=Hi (HY.out (List.all_eq_true.2 fun x hx=>by
          obtain ⟨j,hj,rfl⟩:=List.getElem_of_mem hx
          have:=HPP.out j (by omega)
          rw [List.getD_eq_getElem?_getD,List.getElem?_eq_getElem hj] at this
          simpa using this))
        have HBL:=Hi hbel
        clear hbel
        go_wp2
        go_ret2
        exact RetKind.some_ HE.out HBL.out
      obtain ⟨b,o,x,hA,hSb,hx,y0⟩:=iaAt (HR.out.mono IaC.mono (fun _ q=>q) (zab hbel fun _ q=>q)) hlt
      subst hA
      have hxd:args.getD k 0=x:=by rw [List.getD_eq_getElem?_getD,hx];rfl
      have HXM:=Hi (List.mem_of_getElem? hx)
      have HXD:=Hi hxd
      have HBL:=Hi hbel
      clear hx hxd hbel
      by_cases hxo:x=(2:Int)
      case neg =>
        have hne:(x != (2:Int))=true:=by simpa using hxo
        have HE:=Hi (HNo.out (by
          rw [List.all_eq_false]
          exact ⟨x,HXM.out,by simpa using hxo⟩))
        clear hxo
        go_wp2
        go_ret2
        exact RetKind.none_ 0 HE.out HBL.out
      subst hxo
      go_wp2
      go_roundg (args.length-k)
      case measure=>omega
      case rel=>exact ⟨k+1,by omega,by omega,by go_num,fun j hj=>by
        rcases Nat.lt_succ_iff_lt_or_eq.1 hj with q | rfl
        · exact HPP.out j q
        · exact HXD.out,HBL.out⟩
  · obtain rfl:(1:Int)=OO:=hOO
    obtain rfl:(1:Int)=VV:=hVV
    go_enter Tryz.func97,Tryz.ntmps97
    go_wp2
    go_loopg [59] (args.length+1) (fun g v wr=>KiR w w.heap.size args.length (fun k=>∀ j,j<k→args.getD j 0=(1:Int)) g v wr)
    case atStart=>exact ⟨0,Nat.zero_le _,by omega,rfl,fun j hj=>absurd hj (Nat.not_lt_zero _),HB.out⟩
    case round =>
      obtain ⟨k,hk,hg,rfl,hP,hbel⟩:=hrel
      have HPP:=Hi hP
      clear hP
      by_cases hlt:k<args.length
      case neg =>
        have HE:=Hi (HY.out (List.all_eq_true.2 fun x hx=>by
          obtain ⟨j,hj,rfl⟩:=List.getElem_of_mem hx
          have:=HPP.out j (by omega)
          rw [List.getD_eq_getElem?_getD,List.getElem?_eq_getElem hj] at this
          simpa using this))
        have HBL:=Hi hbel
        clear hbel
        go_wp2
        go_ret2
        exact RetKind.some_ HE.out HBL.out
      obtain ⟨b,o,x,hA,hSb,hx,y0⟩:=iaAt (HR.out.mono IaC.mono (fun _ q=>q) (zab hbel fun _ q=>q)) hlt
      subst hA
      have hxd:args.getD k 0=x:=by rw [List.getD_eq_getElem?_getD,hx];rfl
      have HXM:=Hi (List.mem_of_getElem? hx)
      have HXD:=Hi hxd
      have HBL:=Hi hbel
      clear hx hxd hbel
      by_cases hxo:x=(1:Int)
      case neg =>
        have hne:(x != (1:Int))=true:=by simpa using hxo
        have HE:=Hi (HNo.out (by
          rw [List.all_eq_false]
          exact ⟨x,HXM.out,by simpa using hxo⟩))
        clear hxo
        go_wp2
        go_ret2
        exact RetKind.none_ 0 HE.out HBL.out
      subst hxo
      go_wp2
      go_roundg (args.length-k)
      case measure=>omega
      case rel=>exact ⟨k+1,by omega,by omega,by go_num,fun j hj=>by
        rcases Nat.lt_succ_iff_lt_or_eq.1 hj with q | rfl
        · exact HPP.out j q
        · exact HXD.out,HBL.out⟩
  · obtain rfl:(1:Int)=OO:=hOO
    obtain rfl:(1:Int)=VV:=hVV
    go_enter Tryz.func97,Tryz.ntmps97
    go_wp2
    go_loopg [59] (args.length+1) (fun g v wr=>KiR w w.heap.size args.length (fun k=>∀ j,j<k→args.getD j 0=(1:Int)) g v wr)
    case atStart=>exact ⟨0,Nat.zero_le _,by omega,rfl,fun j hj=>absurd hj (Nat.not_lt_zero _),HB.out⟩
    case round =>
      obtain ⟨k,hk,hg,rfl,hP,hbel⟩:=hrel
      have HPP:=Hi hP
      clear hP
      by_cases hlt:k<args.length
      case neg =>
        have HE:=Hi (HY.out (List.all_eq_true.2 fun x hx=>by
          obtain ⟨j,hj,rfl⟩:=List.getElem_of_mem hx
          have:=HPP.out j (by omega)
          rw [List.getD_eq_getElem?_getD,List.getElem?_eq_getElem hj] at this
          simpa using this))
        have HBL:=Hi hbel
        clear hbel
        go_wp2
        go_ret2
        exact RetKind.some_ HE.out HBL.out
      obtain ⟨b,o,x,hA,hSb,hx,y0⟩:=iaAt (HR.out.mono IaC.mono (fun _ q=>q) (zab hbel fun _ q=>q)) hlt
      subst hA
      have hxd:args.getD k 0=x:=by rw [List.getD_eq_getElem?_getD,hx];rfl
      have HXM:=Hi (List.mem_of_getElem? hx)
      have HXD:=Hi hxd
      have HBL:=Hi hbel
      clear hx hxd hbel
      by_cases hxo:x=(1:Int)
      case neg =>
        have hne:(x != (1:Int))=true:=by simpa using hxo
        have HE:=Hi (HNo.out (by
          rw [List.all_eq_false]
          exact ⟨x,HXM.out,by simpa using hxo⟩))
        clear hxo
        go_wp2
        go_ret2
        exact RetKind.none_ 0 HE.out HBL.out
      subst hxo
      go_wp2
      go_roundg (args.length-k)
      case measure=>omega
      case rel=>exact ⟨k+1,by omega,by omega,by go_num,fun j hj=>by
        rcases Nat.lt_succ_iff_lt_or_eq.1 hj with q | rfl
        · exact HPP.out j q
        · exact HXD.out,HBL.out⟩
  · obtain rfl:(1:Int)=OO:=hOO
    obtain rfl:(1:Int)=VV:=hVV
    go_enter Tryz.func97,Tryz.ntmps97
    go_wp2
    go_loopg [59] (args.length+1) (fun g v wr=>KiR w w.heap.size args.length (fun k=>∀ j,j<k→args.getD j 0=(1:Int)) g v wr)
    case atStart=>exact ⟨0,Nat.zero_le _,by omega,rfl,fun j hj=>absurd hj (Nat.not_lt_zero _),HB.out⟩
    case round =>
      obtain ⟨k,hk,hg,rfl,hP,hbel⟩:=hrel
      have HPP:=Hi hP
      clear hP
      by_cases hlt:k<args.length
      case neg =>
        have HE:=Hi (HY.out (List.all_eq_true.2 fun x hx=>by
          obtain ⟨j,hj,rfl⟩:=List.getElem_of_mem hx
          have:=HPP.out j (by omega)
          rw [List.getD_eq_getElem?_getD,List.getElem?_eq_getElem hj] at this
          simpa using this))
        have HBL:=Hi hbel
        clear hbel
        go_wp2
        go_ret2
        exact RetKind.some_ HE.out HBL.out
      obtain ⟨b,o,x,hA,hSb,hx,y0⟩:=iaAt (HR.out.mono IaC.mono (fun _ q=>q) (zab hbel fun _ q=>q)) hlt
      subst hA
      have hxd:args.getD k 0=x:=by rw [List.getD_eq_getElem?_getD,hx];rfl
      have HXM:=Hi (List.mem_of_getElem? hx)
      have HXD:=Hi hxd
      have HBL:=Hi hbel
      clear hx hxd hbel
      by_cases hxo:x=(1:Int)
      case neg =>
        have hne:(x != (1:Int))=true:=by simpa using hxo
        have HE:=Hi (HNo.out (by
          rw [List.all_eq_false]
          exact ⟨x,HXM.out,by simpa using hxo⟩))
        clear hxo
        go_wp2
        go_ret2
        exact RetKind.none_ 0 HE.out HBL.out
      subst hxo
      go_wp2
      go_roundg (args.length-k)
      case measure=>omega
      case rel=>exact ⟨k+1,by omega,by omega,by go_num,fun j hj=>by
        rcases Nat.lt_succ_iff_lt_or_eq.1 hj with q | rfl
        · exact HPP.out j q
        · exact HXD.out,HBL.out⟩
  · obtain rfl:(1:Int)=OO:=hOO
    obtain rfl:(1:Int)=VV:=hVV
    go_enter Tryz.func97,Tryz.ntmps97
    go_wp2
    go_loopg [59] (args.length+1) (fun g v wr=>KiR w w.heap.size args.length (fun k=>∀ j,j<k→args.getD j 0=(1:Int)) g v wr)
    case atStart=>exact ⟨0,Nat.zero_le _,by omega,rfl,fun j hj=>absurd hj (Nat.not_lt_zero _),HB.out⟩
    case round =>
      obtain ⟨k,hk,hg,rfl,hP,hbel⟩:=hrel
      have HPP:=Hi hP
      clear hP
      by_cases hlt:k<args.length
      case neg =>
        have HE:=Hi (HY.out (List.all_eq_true.2 fun x hx=>by
          obtain ⟨j,hj,rfl⟩:=List.getElem_of_mem hx
          have:=HPP.out j (by omega)
          rw [List.getD_eq_getElem?_getD,List.getElem?_eq_getElem hj] at this
          simpa using this))
        have HBL:=Hi hbel
        clear hbel
        go_wp2
        go_ret2
        exact RetKind.some_ HE.out HBL.out
      obtain ⟨b,o,x,hA,hSb,hx,y0⟩:=iaAt (HR.out.mono IaC.mono (fun _ q=>q) (zab hbel fun _ q=>q)) hlt
      subst hA
      have hxd:args.getD k 0=x:=by rw [List.getD_eq_getElem?_getD,hx];rfl
      have HXM:=Hi (List.mem_of_getElem? hx)
      have HXD:=Hi hxd
      have HBL:=Hi hbel
      clear hx hxd hbel
      by_cases hxo:x=(1:Int)
      case neg =>
        have hne:(x != (1:Int))=true:=by simpa using hxo
        have HE:=Hi (HNo.out (by
          rw [List.all_eq_false]
          exact ⟨x,HXM.out,by simpa using hxo⟩))
        clear hxo
        go_wp2
        go_ret2
        exact RetKind.none_ 0 HE.out HBL.out
      subst hxo
      go_wp2
      go_roundg (args.length-k)
      case measure=>omega
      case rel=>exact ⟨k+1,by omega,by omega,by go_num,fun j hj=>by
        rcases Nat.lt_succ_iff_lt_or_eq.1 hj with q | rfl
        · exact HPP.out j q
        · exact HXD.out,HBL.out⟩
  · obtain rfl:(1:Int)=OO:=hOO
    obtain rfl:(1:Int)=VV:=hVV
    go_enter Tryz.func97,Tryz.ntmps97
    go_wp2
    go_loopg [59] (args.length+1) (fun g v wr=>KiR w w.heap.size args.length (fun k=>∀ j,j<k→args.getD j 0=(1:Int)) g v wr)
    case atStart=>exact ⟨0,Nat.zero_le _,by omega,rfl,fun j hj=>absurd hj (Nat.not_lt_zero _),HB.out⟩
    case round =>
      obtain ⟨k,hk,hg,rfl,hP,hbel⟩:=hrel
      have HPP:=Hi hP
      clear hP
      by_cases hlt:k<args.length
      case neg =>
        have HE:=Hi (HY.out (List.all_eq_true.2 fun x hx=>by
          obtain ⟨j,hj,rfl⟩:=List.getElem_of_mem hx
          have:=HPP.out j (by omega)
          rw [List.getD_eq_getElem?_getD,List.getElem?_eq_getElem hj] at this
          simpa using this))
        have HBL:=Hi hbel
        clear hbel
        go_wp2
        go_ret2
        exact RetKind.some_ HE.out HBL.out
      obtain ⟨b,o,x,hA,hSb,hx,y0⟩:=iaAt (HR.out.mono IaC.mono (fun _ q=>q) (zab hbel fun _ q=>q)) hlt
      subst hA
      have hxd:args.getD k 0=x:=by rw [List.getD_eq_getElem?_getD,hx];rfl
      have HXM:=Hi (List.mem_of_getElem? hx)
      have HXD:=Hi hxd
      have HBL:=Hi hbel
      clear hx hxd hbel
      by_cases hxo:x=(1:Int)
      case neg =>
        have hne:(x != (1:Int))=true:=by simpa using hxo
        have HE:=Hi (HNo.out (by
          rw [List.all_eq_false]
          exact ⟨x,HXM.out,by simpa using hxo⟩))
        clear hxo
        go_wp2
        go_ret2
        exact RetKind.none_ 0 HE.out HBL.out
      subst hxo
      go_wp2
      go_roundg (args.length-k)
      case measure=>omega
      case rel=>exact ⟨k+1,by omega,by omega,by go_num,fun j hj=>by
        rcases Nat.lt_succ_iff_lt_or_eq.1 hj with q | rfl
        · exact HPP.out j q
        · exact HXD.out,HBL.out⟩
  · obtain rfl:(1:Int)=OO:=hOO
    obtain rfl:(2:Int)=VV:=hVV
    go_enter Tryz.func97,Tryz.ntmps97
    go_wp2
    go_loopg [59] (args.length+1) (fun g v wr=>KiR w w.heap.size args.length (fun k=>∀ j,j<k→args.getD j 0=(1:Int)) g v wr)
    case atStart=>exact ⟨0,Nat.zero_le _,by omega,rfl,fun j hj=>absurd hj (Nat.not_lt_zero _),HB.out⟩
    case round =>
      obtain ⟨k,hk,hg,rfl,hP,hbel⟩:=hrel
      have HPP:=Hi hP
      clear hP
      by_cases hlt:k<args.length
      case neg =>
        have HE:=Hi (HY.out (List.all_eq_true.2 fun x hx=>by
          obtain ⟨j,hj,rfl⟩:=List.getElem_of_mem hx
          have:=HPP.out j (by omega)
          rw [List.getD_eq_getElem?_getD,List.getElem?_eq_getElem hj] at this
          simpa using this))
        have HBL:=Hi hbel
        clear hbel
        go_wp2
        go_ret2
        exact RetKind.some_ HE.out HBL.out
      obtain ⟨b,o,x,hA,hSb,hx,y0⟩:=iaAt (HR.out.mono IaC.mono (fun _ q=>q) (zab hbel fun _ q=>q)) hlt
      subst hA
      have hxd:args.getD k 0=x:=by rw [List.getD_eq_getElem?_getD,hx];rfl
      have HXM:=Hi (List.mem_of_getElem? hx)
      have HXD:=Hi hxd
      have HBL:=Hi hbel
      clear hx hxd hbel
      by_cases hxo:x=(1:Int)
      case neg =>
        have hne:(x != (1:Int))=true:=by simpa using hxo
        have HE:=Hi (HNo.out (by
          rw [List.all_eq_false]
          exact ⟨x,HXM.out,by simpa using hxo⟩))
        clear hxo
        go_wp2
        go_ret2
        exact RetKind.none_ 0 HE.out HBL.out
      subst hxo
      go_wp2
      go_roundg (args.length-k)
      case measure=>omega
      case rel=>exact ⟨k+1,by omega,by omega,by go_num,fun j hj=>by
        rcases Nat.lt_succ_iff_lt_or_eq.1 hj with q | rfl
        · exact HPP.out j q
        · exact HXD.out,HBL.out⟩
  · obtain rfl:(1:Int)=OO:=hOO
    obtain rfl:(1:Int)=VV:=hVV
    go_enter Tryz.func97,Tryz.ntmps97
    go_wp2
    go_loopg [59] (args.length+1) (fun g v wr=>KiR w w.heap.size args.length (fun k=>∀ j,j<k→args.getD j 0=(1:Int)) g v wr)
    case atStart=>exact ⟨0,Nat.zero_le _,by omega,rfl,fun j hj=>absurd hj (Nat.not_lt_zero _),HB.out⟩
    case round =>
      obtain ⟨k,hk,hg,rfl,hP,hbel⟩:=hrel
      have HPP:=Hi hP
      clear hP
      by_cases hlt:k<args.length
      case neg =>
        have HE:=Hi (HY.out (List.all_eq_true.2 fun x hx=>by
          obtain ⟨j,hj,rfl⟩:=List.getElem_of_mem hx
          have:=HPP.out j (by omega)
          rw [List.getD_eq_getElem?_getD,List.getElem?_eq_getElem hj] at this
          simpa using this))
        have HBL:=Hi hbel
        clear hbel
        go_wp2
        go_ret2
        exact RetKind.some_ HE.out HBL.out
      obtain ⟨b,o,x,hA,hSb,hx,y0⟩:=iaAt (HR.out.mono IaC.mono (fun _ q=>q) (zab hbel fun _ q=>q)) hlt
      subst hA
      have hxd:args.getD k 0=x:=by rw [List.getD_eq_getElem?_getD,hx];rfl
      have HXM:=Hi (List.mem_of_getElem? hx)
      have HXD:=Hi hxd
      have HBL:=Hi hbel
      clear hx hxd hbel
      by_cases hxo:x=(1:Int)
      case neg =>
        have hne:(x != (1:Int))=true:=by simpa using hxo
        have HE:=Hi (HNo.out (by
          rw [List.all_eq_false]
          exact ⟨x,HXM.out,by simpa using hxo⟩))
        clear hxo
        go_wp2
        go_ret2
        exact RetKind.none_ 0 HE.out HBL.out
      subst hxo
      go_wp2
      go_roundg (args.length-k)
      case measure=>omega
      case rel=>exact ⟨k+1,by omega,by omega,by go_num,fun j hj=>by
        rcases Nat.lt_succ_iff_lt_or_eq.1 hj with q | rfl
        · exact HPP.out j q
        · exact HXD.out,HBL.out⟩
  · obtain rfl:(1:Int)=OO:=hOO
    obtain rfl:(1:Int)=VV:=hVV
    go_enter Tryz.func97,Tryz.ntmps97
    go_wp2
    go_loopg [59] (args.length+1) (fun g v wr=>KiR w w.heap.size args.length (fun k=>∀ j,j<k→args.getD j 0=(1:Int)) g v wr)
    case atStart=>exact ⟨0,Nat.zero_le _,by omega,rfl,fun j hj=>absurd hj (Nat.not_lt_zero _),HB.out⟩
    case round =>
      obtain ⟨k,hk,hg,rfl,hP,hbel⟩:=hrel
      have HPP:=Hi hP
      clear hP
      by_cases hlt:k<args.length
      case neg =>
        have HE:=Hi (HY.out (List.all_eq_true.2 fun x hx=>by
          obtain ⟨j,hj,rfl⟩:=List.getElem_of_mem hx
          have:=HPP.out j (by omega)
          rw [List.getD_eq_getElem?_getD,List.getElem?_eq_getElem hj] at this
          simpa using this))
        have HBL:=Hi hbel
        clear hbel
        go_wp2
        go_ret2
        exact RetKind.some_ HE.out HBL.out
      obtain ⟨b,o,x,hA,hSb,hx,y0⟩:=iaAt (HR.out.mono IaC.mono (fun _ q=>q) (zab hbel fun _ q=>q)) hlt
      subst hA
      have hxd:args.getD k 0=x:=by rw [List.getD_eq_getElem?_getD,hx];rfl
      have HXM:=Hi (List.mem_of_getElem? hx)
      have HXD:=Hi hxd
      have HBL:=Hi hbel
      clear hx hxd hbel
      by_cases hxo:x=(1:Int)
      case neg =>
        have hne:(x != (1:Int))=true:=by simpa using hxo
        have HE:=Hi (HNo.out (by
          rw [List.all_eq_false]
          exact ⟨x,HXM.out,by simpa using hxo⟩))
        clear hxo
        go_wp2
        go_ret2
        exact RetKind.none_ 0 HE.out HBL.out
      subst hxo
      go_wp2
      go_roundg (args.length-k)
      case measure=>omega
      case rel=>exact ⟨k+1,by omega,by omega,by go_num,fun j hj=>by
        rcases Nat.lt_succ_iff_lt_or_eq.1 hj with q | rfl
        · exact HPP.out j q
        · exact HXD.out,HBL.out⟩
end Go.Proofs.YtcikenlflcofbaaGreatDoor
