/-
  The reader's levels joined: every part of the reader does what its plain word says.
-/
import Derived.Test.YtcikenlflcofbaaGreatDoorRdM
set_option maxRecDepth 100000
set_option maxHeartbeats 8000000
namespace Go.Proofs.YtcikenlflcofbaaGreatDoor
open Go.RowKit
theorem ziG {rb:Nat} {A:Option Addr} {c:Nat} {l:List Tok} {w w1 w2:World} {x:Ex} {s:RSt} {e':Ending} (hb:Below w.heap.size w w1) (hrl:rb<w.heap.size) (hw:w.heap.size<w1.heap.size) (hZ:ZB w1 w.heap.size) (h:RetXR rb A c l x s w1 e' w2) :
    ∃ op n nm A1 c1 ks,x = .mk op n nm ks∧e' = .returned (exV op n nm A1 ks.length c1)∧ZB w2 w.heap.size∧w.heap.size<w2.heap.size ∧
      RetXR rb A c l x s w (.returned (exV op n nm A1 ks.length c1)) (set4 w2 w.heap.size (.int .i64 op) (.int .i64 n) (.string ⟨nm.toArray⟩) (.slice A1 ks.length c1)):=by
  obtain ⟨op,n,nm,A1,c1,ks,rfl,rfl,hc1,hm1,hp1,hr1,hl1,hi1⟩:=h;have hsz:=hl1.1.size;refine ⟨op,n,nm,A1,c1,ks,rfl,rfl,hZ.leftR hl1 (by omega),by omega,?_⟩
  exact RetXR.put hc1 hm1 hp1 hr1 (fun b hb=>⟨by have:=hb.1;omega,hb.2⟩) (LeftR.pre hb hl1) hi1 hrl
theorem zlt {rb:Nat} {A:Option Addr} {c:Nat} {t:List UInt8} {l:List Tok} {e:RSt→Option (Ex × RSt)} (hP:zdX rb A c t l 84 e):zew rb A c t l 3 e:=by
  intro s w y s' hs hr;have hb0:=zaa w (Obj.cells #[.int .i64 0,.int .i64 0,.string ⟨#[]⟩,.slice Option.none 0 0] 48);have hrl:=hs.ltp;have HC:=Hi (hP _ _ _ _ (hs.below hb0) hr);have HH:=Hi (fun e' w2 (h:RetXR rb A c l y s' _ e' w2)=>ziG hb0 hrl (by rw [World.size_alloc];omega) (ZB.new w) h);clear hP hs hr hb0;go_enter Tryz.func68,Tryz.ntmps68;go_wp2_with fail
  refine HC.out.mono ?_
  intro e' w2 h;obtain ⟨op,n,nm,A1,c1,ks,rfl,rfl,hZ,hlt,hret⟩:=HH.out e' w2 h;unfold exV;obtain ⟨q0,q1,q2,q3,z0,z1,z2,z3⟩:=XV.cells hZ;have HPT:=Hi (zak hZ op n nm A1 ks.length c1);have HRET:=Hi hret;clear h hret hZ HC HH;go_wp2
  change bodyPost _ _ _ _ _ (set4 w2 w.heap.size (.int .i64 op) (.int .i64 n) (.string ⟨nm.toArray⟩) (.slice A1 ks.length c1))
  obtain ⟨r0,r1,r2,r3,-,-,-,-⟩:=HPT.out.cells;exact bodyPost_ret (v:=exV op n nm A1 ks.length c1) (by simp [results,Tryz.results68,go_sem,exV,r0,r1,r2,r3]) rfl HRET.out
theorem zj3 {rb:Nat} {A:Option Addr} {c:Nat} {t:List UInt8} {l:List Tok} {e:RSt→Option (Ex × RSt)} (hP:zdX rb A c t l 85 e):zew rb A c t l 5 e:=by
  intro s w y s' hs hr;have hb0:=zaa w (Obj.cells #[.int .i64 0,.int .i64 0,.string ⟨#[]⟩,.slice Option.none 0 0] 48);have hrl:=hs.ltp;have HC:=Hi (hP _ _ _ _ (hs.below hb0) hr);have HH:=Hi (fun e' w2 (h:RetXR rb A c l y s' _ e' w2)=>ziG hb0 hrl (by rw [World.size_alloc];omega) (ZB.new w) h);clear hP hs hr hb0;go_enter Tryz.func68,Tryz.ntmps68;go_wp2_with fail
  refine HC.out.mono ?_
  intro e' w2 h;obtain ⟨op,n,nm,A1,c1,ks,rfl,rfl,hZ,hlt,hret⟩:=HH.out e' w2 h;unfold exV;obtain ⟨q0,q1,q2,q3,z0,z1,z2,z3⟩:=XV.cells hZ;have HPT:=Hi (zak hZ op n nm A1 ks.length c1);have HRET:=Hi hret;clear h hret hZ HC HH;go_wp2
  change bodyPost _ _ _ _ _ (set4 w2 w.heap.size (.int .i64 op) (.int .i64 n) (.string ⟨nm.toArray⟩) (.slice A1 ks.length c1))
  obtain ⟨r0,r1,r2,r3,-,-,-,-⟩:=HPT.out.cells;exact bodyPost_ret (v:=exV op n nm A1 ks.length c1) (by simp [results,Tryz.results68,go_sem,exV,r0,r1,r2,r3]) rfl HRET.out
theorem zkS {rb:Nat} {A:Option Addr} {c:Nat} {t:List UInt8} {l:List Tok} {e:RSt→Option (Ex × RSt)} (hP:zew rb A c t l 0 e):zdX rb A c t l 43 e:=by
  intro s w y s' hs hr;have hb0:=zaa w (Obj.cells #[.int .i64 0,.int .i64 0,.string ⟨#[]⟩,.slice Option.none 0 0] 48);have hrl:=hs.ltp;have HC:=Hi (hP _ _ _ _ (hs.below hb0) hr);have HH:=Hi (fun e' w2 (h:RetXR rb A c l y s' _ e' w2)=>ziG hb0 hrl (by rw [World.size_alloc];omega) (ZB.new w) h);clear hP hs hr hb0;go_enter Tryz.func43,Tryz.ntmps43;go_wp2_with fail
  refine HC.out.mono ?_
  intro e' w2 h;obtain ⟨op,n,nm,A1,c1,ks,rfl,rfl,hZ,hlt,hret⟩:=HH.out e' w2 h;unfold exV;obtain ⟨q0,q1,q2,q3,z0,z1,z2,z3⟩:=XV.cells hZ;have HPT:=Hi (zak hZ op n nm A1 ks.length c1);have HRET:=Hi hret;clear h hret hZ HC HH;go_wp2
  change bodyPost _ _ _ _ _ (set4 w2 w.heap.size (.int .i64 op) (.int .i64 n) (.string ⟨nm.toArray⟩) (.slice A1 ks.length c1))
  obtain ⟨r0,r1,r2,r3,-,-,-,-⟩:=HPT.out.cells;exact bodyPost_ret (v:=exV op n nm A1 ks.length c1) (by simp [results,Tryz.results43,go_sem,exV,r0,r1,r2,r3]) rfl HRET.out
structure AllR (rb:Nat) (A:Option Addr) (c:Nat) (t:List UInt8) (l:List Tok) (f:Nat):Prop where
  ex:zew rb A c t l 0 (rLev l f .expr)
  xo:zew rb A c t l 1 (rLev l f .xor)
  cj:zew rb A c t l 2 (rLev l f .conj)
  ng:zdX rb A c t l 84 (rLev l f .neg)
  sm:zew rb A c t l 4 (rLev l f .sum)
  pr:zdX rb A c t l 85 (rLev l f .prim)
theorem allR {rb:Nat} {A:Option Addr} {c:Nat} {t:List UInt8} {l:List Tok}:∀ f,AllR rb A c t l f
  | 0=>by refine ⟨?_,?_,?_,?_,?_,?_⟩ <;> exact fun _ _ _ _ _ h=>by cases h
  | f+1=>by
    have ih:AllR rb A c t l f:=allR f;refine ⟨zc5 (n:=0) (ops:=[[111, 114]]) (.inl ⟨rfl,rfl⟩) ih.xo f,zc5 (n:=1) (ops:=[[120, 111, 114]]) (.inr (.inl ⟨rfl,rfl⟩)) ih.cj f,zc5 (n:=2) (ops:=[[97, 110, 100]]) (.inr (.inr (.inl ⟨rfl,rfl⟩))) (zlt ih.ng) f,?_,zc5 (n:=4) (ops:=[[43],[45]]) (.inr (.inr (.inr ⟨rfl,rfl⟩))) (zj3 ih.pr) f,prim_r (zkS ih.ex)⟩
    match f with
    | 0 =>
      intro s w y s' hs h
      exfalso
      rw [ze6] at h
      split at h
      · obtain ⟨_,_,q,_⟩:=zbk h
        cases q
      · cases h
    | g+1=>exact not_r ih.ng (allR g).sm
theorem zkm {rb:Nat} {A:Option Addr} {c:Nat} {t:List UInt8} {l:List Tok} (f:Nat):zdX rb A c t l 43 (rLev l f .expr):=zkS (allR f).ex
end Go.Proofs.YtcikenlflcofbaaGreatDoor
