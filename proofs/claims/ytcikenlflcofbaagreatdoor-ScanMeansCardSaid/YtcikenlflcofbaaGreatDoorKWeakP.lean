/-
  The reference's GoodEnv, Wants, kind and Check.
-/
import Derived.Test.YtcikenlflcofbaaGreatDoorChk
import Derived.Test.YtcikenlflcofbaaGreatDoorRV
import Derived.Test.YtcikenlflcofbaaGreatDoorKVfH
import Derived.Test.YtcikenlflcofbaaGreatDoorP1
set_option maxRecDepth 100000
set_option maxHeartbeats 8000000
namespace Go.Proofs.YtcikenlflcofbaaGreatDoor
open Go.RowKit
def GeR (W0:World) (env:List Sg) (g:Nat) (v:Value) (wr:World):Prop:=∃ k:Nat,k≤env.length∧env.length-k<g∧v = .int .i64 (k:Int)∧zco (env.take k) (env.drop k)=zbn env∧Below W0.heap.size W0 wr
def GeS (W0:World) (k:Nat) (env:List Sg) (nm:List UInt8) (g:Nat) (v:Value) (wr:World):Prop:=∃ j:Nat,j≤k∧k-j<g∧v = .int .i64 (j:Int)∧(∀ i y,i<j→env[i]? = some y→y.nm≠nm)∧Below W0.heap.size W0 wr
theorem zdK {env:List Sg} {k j:Nat} {y:Sg} (hj:j<k) (hy:env[j]? = some y):(zay (env.take k) y.nm).isNone=false:=by
  unfold zay;have hm:y∈env.take k:=List.mem_of_getElem? (i:=j) (by rw [List.getElem?_take_of_lt hj];exact hy)
  cases hf:(env.take k).find? fun x=>decide (x.nm=y.nm) with
  | none=>have:=List.find?_eq_none.1 hf y hm;simp at this
  | some z=>rfl
theorem zcj {env:List Sg} {k:Nat} {nm:List UInt8} (h:∀ i y,i<k→env[i]? = some y→y.nm≠nm):(zay (env.take k) nm).isNone=true:=by
  unfold zay
  have:(env.take k).find? (fun x=>decide (x.nm=nm))=none:=by
    rw [List.find?_eq_none];intro x hx;obtain ⟨j,hj,rfl⟩:=List.getElem_of_mem hx;rw [List.length_take] at hj;have:=h j _ (by omega) (List.getElem?_eq_getElem (by omega));simpa [List.getElem_take] using this
  rw [this]
  rfl
theorem zgr {env:List Sg} {nm:List UInt8} {j:Nat} {y:Sg} (h:∀ i y,i<j→env[i]? = some y→y.nm≠nm) (hy:env[j]? = some y) (hn:y.nm≠nm):∀ i y,i<j+1→env[i]? = some y→y.nm≠nm:=by
  intro i z hi hz
  rcases Nat.lt_succ_iff_lt_or_eq.1 hi with q | rfl
  · exact h i z q hz
  · rw [hy] at hz;cases hz;exact hn
theorem zf7 (A:Option Addr) (c:Nat) (env:List Sg) (w:World) (hc:env.length≤c) (hm:c≤maxLen) (hr:Rw SgC 2 w (fun b=>b<w.heap.size) A env.length env) :
    Calls Tryz.prog 19 #[.slice A env.length c] w (RetB (zbn env) w):=by
  have HR:=Hi hr;clear hr;unfold maxLen at hm;go_enter Tryz.func19,Tryz.ntmps19;go_wp2;go_loopg [9] (env.length+1) (fun g v wr=>GeR w env g v wr)
  case atStart=>exact ⟨0,Nat.zero_le _,by omega,rfl,by rw [List.take_zero,List.drop_zero];rfl,Below.refl _ _⟩
  case round =>
    obtain ⟨k,hk,hgk,rfl,hgood,hbel⟩:=hrel
    by_cases hlt:k<env.length
    case neg =>
      obtain rfl:k=env.length:=by omega
      rw [List.drop_length] at hgood;have HG:=Hi (show zbn env=true from hgood.symm);have HB:=Hi hbel;clear hgood hbel hlt;go_wp2;go_ret
      exact ⟨zae HG.out.symm,HB.out⟩
    obtain ⟨b,o,s,hA,hSb,hx,hxl,hxw,y0,y1⟩:=sgAt (HR.out.mono SgC.mono (fun _ q=>q) (zab hbel fun _ q=>q)) hlt;subst hA
    have hget:env[k]=s:=by
      rw [List.getElem?_eq_getElem hlt] at hx;injection hx
    rw [List.drop_eq_getElem_cons hlt,hget] at hgood;unfold zco at hgood
    have htake:env.take (k+1)=env.take k++[s]:=by
      rw [List.take_succ_eq_append_getElem hlt,hget]
    rw [← htake] at hgood;have hbk:b<wr.heap.size:=Nat.lt_of_lt_of_le hSb hbel.size;obtain ⟨nm,kd⟩:=s;dsimp only at *;have hbx:=zaa wr (Obj.cells #[.string ⟨nm.toArray⟩,.int .i64 kd] 40);have hbw:=zac hbel hbx hbel.size;have C:=fun W=>zel nm W hxl
    unfold sgB at hgood;dsimp only at hgood;generalize hNB:zbj nm=nb at *;clear hNB;have HC:=Hi C;have HB:=Hi hbw;have HX:=Hi hx;have hnew0:(wr.alloc (Obj.cells #[.string ⟨nm.toArray⟩,.int .i64 kd] 40)).cell? ⟨wr.heap.size,0,none⟩=some (.string ⟨nm.toArray⟩):=by rw [cell_of_row _ wr.heap.size 0 _ _ (0,0) (heap_alloc_new wr _)];rfl
    have hnew1:(wr.alloc (Obj.cells #[.string ⟨nm.toArray⟩,.int .i64 kd] 40)).cell? ⟨wr.heap.size,1,none⟩=some (.int .i64 kd):=by rw [cell_of_row _ wr.heap.size 1 _ _ (0,0) (heap_alloc_new wr _)];rfl
    clear C hbx hbw htake hx hget hSb
    cases nb with
    | false =>
      have HG:=Hi (show zbn env=false by rw [← hgood];rfl);clear hgood hbel hnew0 hnew1;go_wp2_with fail
      refine (HC.out _).mono ?_
      rintro e w5 ⟨rfl,hb5⟩
      go_wp2;go_ret
      exact ⟨zae HG.out.symm,zac HB.out hb5 HB.out.size⟩
    | true =>
      have HN0:=Hi hnew0;have HN1:=Hi hnew1;clear hnew0 hnew1
      by_cases hkd:kd=1∨kd=2
      case neg =>
        have HG:=Hi (show zbn env=false by rw [← hgood];simp [hkd]);have k1:(kd != 1)=true:=by simp;exact fun q=>hkd (.inl q)
        have k2:(kd != 2)=true:=by simp;exact fun q=>hkd (.inr q)
        clear hgood hbel hkd;go_wp2_with fail
        refine (HC.out _).mono ?_
        rintro e w5 ⟨rfl,hb5⟩
        have z1:=zcD HN1.out hb5;go_wp2;go_ret
        exact ⟨zae HG.out.symm,zac HB.out hb5 HB.out.size⟩
      have hkw:(kd != 1)=false∨(kd != 1)=true∧(kd != 2)=false:=by
        rcases hkd with rfl | rfl
        · exact .inl rfl
        · exact .inr ⟨rfl,rfl⟩
      have hg2:zbn env=((zay (env.take k) nm).isNone && zco (env.take (k+1)) (env.drop (k+1))):=by
        rw [← hgood]
        rcases hkd with rfl | rfl <;> simp
      have HG:=Hi hg2;clear hgood hg2 hkd hbel
      rcases hkw with k1 | ⟨k1,k2⟩
      all_goals
        go_wp2_with fail
        refine (HC.out _).mono ?_
        rintro e w5 ⟨rfl,hb5⟩
        have HB5:=Hi (zac HB.out hb5 HB.out.size);have HZ0:=Hi (zcD HN0.out hb5);have z1:=zcD HN1.out hb5;have hlt5:=hb5.size;simp only [World.size_alloc] at hlt5;clear hb5;have hkc:k≤c:=by omega
        go_wp2;clear z1;go_loopg [32] (k+1) (fun g v wq=>GeS w5 k env nm g v wq)
        case atStart=>exact ⟨0,Nat.zero_le _,by omega,rfl,fun i y h=>absurd h (Nat.not_lt_zero _),Below.refl _ _⟩
        case round =>
          rename World=>wq
          obtain ⟨j,hj,hgj,rfl,hall,hbq⟩:=hrel;have HALL:=Hi hall;have hbq2:=zac HB5.out hbq HB5.out.size;have hsq:=hbq.size;clear hall
          by_cases hjk:j<k
          case neg =>
            obtain rfl:j=k:=by omega
            have HG2:=Hi (show zco (env.take (j+1)) (env.drop (j+1))=zbn env by rw [HG.out,zcj HALL.out,Bool.true_and]);have HBQ:=Hi hbq2;clear hbq hbq2;go_wp2;go_roundg (env.length-j)
            case measure=>omega
            case rel=>exact ⟨j+1,by omega,by omega,by go_num,HG2.out,HBQ.out⟩
          obtain ⟨b',o',s',hA',hSb',hx',hxl',hxw',u0,u1⟩:=sgAt (HR.out.mono SgC.mono (fun _ q=>q) (zab hbq2 fun _ q=>q)) (k:=j) (by omega);injection hA' with hA'
          injection hA' with hA1 hA2
          subst hA1;subst hA2;obtain ⟨nm',kd'⟩:=s';dsimp only at *;have hbk':b<wq.heap.size:=by omega
          have hzz:wr.heap.size<wq.heap.size:=by omega
          have z0:=zcD HZ0.out hbq;have hbx':=zaa wq (Obj.cells #[.string ⟨nm'.toArray⟩,.int .i64 kd'] 40);have HBQ:=Hi (zac hbq hbx' hbq.size);have HBW:=Hi (zac hbq2 hbx' hbq2.size);have HX':=Hi hx';clear hbq hbq2 hbx' hx' hSb'
          by_cases he:nm'=nm
          · have e1:(nm' == nm)=true:=by simp [he]
            subst he
            have HG3:=Hi (show zbn env=false by rw [HG.out,zdK hjk HX'.out,Bool.false_and])
            go_wp2
            go_ret
            exact ⟨zae HG3.out.symm,HBW.out⟩
          · have e1:(nm' == nm)=false:=by simp [he]
            have HS:=Hi (zgr HALL.out HX'.out he)
            clear he
            go_wp2
            go_roundg (k-j)
            case measure=>omega
            case rel=>exact ⟨j+1,by omega,by omega,by go_num,HS.out,HBQ.out⟩
end Go.Proofs.YtcikenlflcofbaaGreatDoor
namespace Go.Proofs.YtcikenlflcofbaaGreatDoor
open Go.RowKit
theorem zd4 {α:Type} {f:α→List Value} {size:Nat}:∀ (xs:List α) (i:Nat) (u:Value),(∀ x∈xs,(f x).length=size)→(xs.flatMap f)[i]? = some u→∃ k j x,xs[k]? = some x∧(f x)[j]? = some u∧i=k*size+j
  | [],i,u,_,h=>by simp at h
  | y::xs,i,u,h,hu=>by
    have hy:=h y (List.mem_cons_self ..);rw [List.flatMap_cons] at hu
    by_cases hi:i<size
    · rw [List.getElem?_append_left (by omega)] at hu
      exact ⟨0,i,y,rfl,hu,by omega⟩
    · rw [List.getElem?_append_right (by omega),hy] at hu
      obtain ⟨k,j,x,h1,h2,h3⟩:=zd4 xs (i-size) u (fun z hz=>h z (List.mem_cons_of_mem _ hz)) hu
      exact ⟨k+1,j,x,h1,h2,by rw [Nat.succ_mul];omega⟩
theorem zd5 {α:Type} {f:α→List Value} {size:Nat}:∀ (xs:List α),(∀ x∈xs,(f x).length=size)→(xs.flatMap f).length=xs.length*size
  | [],_=>by simp
  | y::xs,h=>by
    rw [List.flatMap_cons,List.length_append,h y (List.mem_cons_self ..),zd5 xs (fun z hz=>h z (List.mem_cons_of_mem _ hz)),List.length_cons,Nat.succ_mul];omega
theorem zk3 {α:Type} {R:World→(Nat→Prop)→List Value→α→Prop} {size n:Nat} {w:World} {S:Nat→Prop} {A:Option Addr} {xs:List α} {f:α→List Value} (h:Rw R size w S A n xs) (hR:∀ cs x,R w S cs x→cs=f x) (hf:∀ x∈xs,(f x).length=size):Src w size A n (xs.flatMap f):=by
  refine ⟨by rw [zd5 xs hf,h.1],fun hn => ?_⟩
  obtain ⟨b,o,e,_,hr⟩:=h.2 hn;refine ⟨⟨b,o,none⟩,e,fun i u hu => ?_⟩
  obtain ⟨k,j,x,hk,hj,rfl⟩:=zd4 xs i u hf hu;obtain ⟨cs,_,hb,hat⟩:=hr k x hk;obtain rfl:=hR cs x hb;rw [Addr.add_mid];have:=hat j u hj;rw [Nat.add_assoc] at this;exact this
def zbH (s:Sg):List Value:=[.string ⟨s.nm.toArray⟩,.int .i64 s.kind]
theorem zen (env:List Sg):∀ u∈env.flatMap zbH,u.oneCell'=true:=by
  intro u hu;obtain ⟨s,_,hs⟩:=List.mem_flatMap.1 hu;simp only [zbH,List.mem_cons,List.not_mem_nil,or_false] at hs
  rcases hs with rfl | rfl <;> rfl
theorem zgc (s:Sg):∀ u∈zbH s,u.oneCell'=true:=by
  intro u hu;simp only [zbH,List.mem_cons,List.not_mem_nil,or_false] at hu
  rcases hu with rfl | rfl <;> rfl
theorem zkX:(Tryz.prog.info? 40).map (fun i=>(i.zero,i.size,i.bytes))=some (some (.agg #[.string ⟨#[]⟩,.int .i64 0]),2,24):=by kernel_rfl
theorem info_parts {t:TypeId} {z:Value} {s b:Nat} (h:(Tryz.prog.info? t).map (fun i=>(i.zero,i.size,i.bytes))=some (some z,s,b)):∃ i,Tryz.prog.info? t=some i∧i.zero=some z∧i.size=s∧i.bytes=b:=by
  cases hi : Tryz.prog.info? t with
  | none=>rw [hi] at h;cases h
  | some i =>
    rw [hi] at h;simp only [Option.map_some,Option.some.injEq,Prod.mk.injEq] at h;exact ⟨i,rfl,h.1,h.2.1,h.2.2⟩
theorem zlo:(Tryz.prog.info? 3).map (fun i=>(i.zero,i.size,i.bytes))=some (some (.int .i64 0),1,8):=by kernel_rfl
end Go.Proofs.YtcikenlflcofbaaGreatDoor
namespace Go.Proofs.YtcikenlflcofbaaGreatDoor
theorem zfO {env:List Sg} {s:List UInt8} (h:∀ y∈env,y.nm≠s):zay env s=none:=by
  unfold zay;rw [List.find?_eq_none.2 (fun y hy=>by simpa using h y hy)]
  rfl
end Go.Proofs.YtcikenlflcofbaaGreatDoor
