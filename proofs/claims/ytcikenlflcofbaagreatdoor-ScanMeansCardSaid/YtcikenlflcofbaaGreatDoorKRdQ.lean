/-
  An expression that was read has no more nodes than there are tokens. No program is named here.
-/
import Derived.Test.YtcikenlflcofbaaGreatDoorKRdP
import Derived.Test.YtcikenlflcofbaaGreatDoorKSz
import Derived.Test.YtcikenlflcofbaaGreatDoorRdA
import Derived.Test.YtcikenlflcofbaaGreatDoorRdC
import Derived.Test.YtcikenlflcofbaaGreatDoorRV
namespace Go.Proofs.YtcikenlflcofbaaGreatDoor
theorem zdy (f:Ex→Nat):∀ (a b:List Ex),szL f (a++b)=szL f a+szL f b
  | [],b=>by simp [szL]
  | x::a,b=>by
    have:=zdy f a b;simp only [List.cons_append,szL,this];omega
def SzE (e:Nat→Int→Res Ex):Prop:=∀ i la x j lb,e i la=some (.ok (x,j,lb))→∀ d,szG d x≤j-i
theorem zk4 {d i0 i k:Nat} {x z:Ex} (op:Int) (hx:∀ d,szG d x≤i-i0) (hz:∀ d,szG d z≤k-(i+1)) (h0:i0≤i) (h1:i+1≤k):szG d (.mk op 0 [] [x,z])≤k-i0:=by
  cases d with
  | zero=>exact Nat.zero_le _
  | succ d =>
    have:=hx d;have:=hz d;simp only [szG,szL];omega
theorem zg8 {L:List Tok} {e:Nat→Int→Res Ex} (hL:Ends L) (he:FwdE L.length e) (hs:SzE e) (ops:List (List UInt8)) (hops:ops.contains []=false) :
    ∀ g x i la y j lb i0,zcp L e ops g x i la=some (.ok (y,j,lb))→i<L.length→i0≤i→(∀ d,szG d x≤i-i0)→∀ d,szG d y≤j-i0
  | 0,_,_,_,_,_,_,_,h,_,_,_,_=>by cases h
  | g+1,x,i,la,y,j,lb,i0,h,hi,h0,hx,d=>by
    unfold zcp at h
    split at h
    · rename_i hc
      obtain ⟨z,k,lc,h1,h2⟩:=zcn h
      obtain ⟨t1,t2⟩:=hL.take (i:=i) (fun q=>by rw [q,hops] at hc;cases hc)
      rw [t1] at h1
      have a:=he _ _ _ _ _ h1
      have b:=hs _ _ _ _ _ h1
      exact zg8 hL he hs ops hops g _ _ _ _ _ _ i0 h2 a.2 (by omega) (fun d=>zk4 _ hx b h0 (by omega)) d
    · cases h;exact hx d
theorem zda {L:List Tok} {e:Nat→Int→Res Ex} (hL:Ends L) (he:FwdE L.length e) (hs:SzE e) (ops:List (List UInt8)) (hops:ops.contains []=false) (g:Nat):SzE (zbD L e ops g):=by
  intro i la y j lb h d;obtain ⟨z,k,lc,h1,h2⟩:=zcn h;have a:=he _ _ _ _ _ h1;exact zg8 hL he hs ops hops g _ _ _ _ _ _ i h2 a.2 (by omega) (hs _ _ _ _ _ h1) d
theorem ze3 {L:List Tok} {e:Nat→Int→Res Ex} (hL:Ends L) (he:FwdE L.length e) (hs:SzE e):∀ k acc i la ks j lb i0,zb4 L e k acc i la=some (.ok (ks,j,lb))→i<L.length→i0≤i→(∀ d,szL (szG d) acc≤i-i0)→∀ d,szL (szG d) ks≤j-i0
  | 0,_,_,_,_,_,_,_,h,_,_,hx,d=>by cases h;exact hx d
  | k+1,acc,i,la,ks,j,lb,i0,h,hi,h0,hx,d=>by
    unfold zb4 at h
    split at h
    · obtain ⟨z,m,lc,h1,h2⟩:=zcn h
      have a:=he _ _ _ _ _ h1
      have b:=hs _ _ _ _ _ h1
      exact ze3 hL he hs k _ _ _ _ _ _ i0 h2 a.2 (by omega) (fun d=>by have:=hx d;have:=b d;rw [zdy];simp only [szL];omega) d
    · obtain ⟨hc,h'⟩:=zbA h
      obtain ⟨z,m,lc,h1,h2⟩:=zcn h'
      obtain ⟨t1,t2⟩:=hL.isT hc (by decide)
      rw [t1] at h1
      have a:=he _ _ _ _ _ h1
      have b:=hs _ _ _ _ _ h1
      exact ze3 hL he hs k _ _ _ _ _ _ i0 h2 a.2 (by omega) (fun d=>by have:=hx d;have:=b d;rw [zdy];simp only [szL];omega) d
theorem zg7 {L:List Tok} (hL:Ends L) {op n:Int} {ks:List Ex} {i i0:Nat} {la:Int} {y:Ex} {j:Nat} {lb:Int} (h:zcT L op n ks i la=some (.ok (y,j,lb))) (h0:i0≤i) (hk:∀ d,szL (szG d) ks≤i-i0):∀ d,szG d y≤j-i0:=by
  obtain ⟨hc,h'⟩:=zbA h;obtain ⟨t1,t2⟩:=hL.isT hc (by decide)
  cases h'
  intro d
  cases d with
  | zero=>exact Nat.zero_le _
  | succ d =>
    have:=hk d;simp only [szG];omega
theorem zke {L:List Tok} {e:Nat→Int→Res Ex} (hL:Ends L) (he:FwdE L.length e) (hs:SzE e) (op:Int):SzE (zed L e op):=by
  intro i la y j lb h;obtain ⟨hc,h'⟩:=zbA h;obtain ⟨t1,t2⟩:=hL.isT hc (by decide);obtain ⟨ks,m,lc,h1,h2⟩:=zcn h';rw [t1] at h1;have a:=zc9 hL he _ _ _ _ _ _ _ h1 (by omega);have b:=ze3 hL he hs _ _ _ _ _ _ _ i h1 (by omega) (by omega) (fun d=>by simp [szL])
  split at h2
  · obtain ⟨hc2,h3⟩:=zbA h2
    obtain ⟨t3,t4⟩:=hL.isT hc2 (by decide)
    split at h3
    · rename_i hk
      obtain ⟨t5,t6⟩:=zb0 hL (i:=zaA L m) (by rw [hk];decide)
      exact zg7 hL h3 (by omega) (fun d=>by have:=b d;omega)
    · cases h3
  · exact zg7 hL h2 (by omega) b
theorem zfk (op n:Int) (nm:List UInt8) {m:Nat} (hm:1≤m):∀ d,szG d (.mk op n nm [])≤m:=by
  intro d
  cases d with
  | zero=>exact Nat.zero_le _
  | succ d=>simp only [szG,szL];omega
theorem zkg {L:List Tok} {e:Nat→Int→Res Ex} (hL:Ends L) (he:FwdE L.length e) (hs:SzE e):SzE (zcN L e):=by
  intro i la y j lb h;unfold zcN at h
  split at h
  · rename_i hc
    obtain ⟨t1,t2⟩:=hL.isT hc (by decide)
    obtain ⟨x,m,lc,h1,h2⟩:=zcn h
    rw [t1] at h1
    have a:=hs _ _ _ _ _ h1
    obtain ⟨hc2,h3⟩:=zbA h2
    obtain ⟨t3,t4⟩:=hL.isT hc2 (by decide)
    cases h3
    intro d
    have:=a d
    omega
  split at h
  · rename_i hc
    obtain ⟨t1,t2⟩:=hL.isT hc (by decide)
    cases h;exact zfk _ _ _ (by omega)
  split at h
  · rename_i hc
    obtain ⟨t1,t2⟩:=hL.isT hc (by decide)
    cases h;exact zfk _ _ _ (by omega)
  split at h
  · rename_i hc
    obtain ⟨t1,t2⟩:=hL.take (i:=i) (fun q=>by rw [q] at hc;exact absurd hc (by decide))
    intro d
    have:=zke hL he hs _ _ _ _ _ _ h d
    omega
  split at h
  · rename_i hk
    obtain ⟨t1,t2⟩:=zb0 hL (i:=i) (by rw [hk];decide)
    cases h;exact zfk _ _ _ (by omega)
  split at h
  · rename_i hk
    obtain ⟨t1,t2⟩:=zb0 hL (i:=i) (by rw [hk.1];decide)
    cases h;exact zfk _ _ _ (by omega)
  · cases h
theorem zi2 {L:List Tok} (hL:Ends L):∀ f lv,SzE (pLev L f lv)
  | 0,_=>fun _ _ _ _ _ h=>by cases h
  | f+1,lv=>by
    have ih:=fun lv=>zi2 hL f lv
    have fw:=fun lv=>ze4 hL f lv
    cases lv
    · exact zda hL (fw .xor) (ih .xor) _ (by decide) f
    · exact zda hL (fw .conj) (ih .conj) _ (by decide) f
    · exact zda hL (fw .neg) (ih .neg) _ (by decide) f
    · intro i la y j lb h
      simp only [pLev] at h
      split at h
      · rename_i hc
        obtain ⟨t1,t2⟩:=hL.isT hc (by decide)
        obtain ⟨x,m,lc,h1,h2⟩:=zcn h
        rw [t1] at h1
        have a:=ih .neg _ _ _ _ _ h1
        have b:=fw .neg _ _ _ _ _ h1
        cases h2
        intro d
        cases d with
        | zero=>exact Nat.zero_le _
        | succ d =>
          have:=a d
          simp only [szG,szL]
          omega
      · exact ih .rel _ _ _ _ _ h
    · intro i la y j lb h
      simp only [pLev] at h
      obtain ⟨x,m,lc,h1,h2⟩:=zcn h
      have a:=ih .sum _ _ _ _ _ h1
      have b:=fw .sum _ _ _ _ _ h1
      split at h2
      · rename_i hc
        obtain ⟨t1,t2⟩:=hL.take (i:=m) (fun q=>by rw [q] at hc;exact absurd hc (by decide))
        obtain ⟨z,q,ld,h3,h4⟩:=zcn h2
        rw [t1] at h3
        have a2:=ih .sum _ _ _ _ _ h3
        have b2:=fw .sum _ _ _ _ _ h3
        cases h4
        intro d
        exact zk4 _ a a2 (by omega) (by omega)
      · cases h2;exact a
    · exact zda hL (fw .prim) (ih .prim) _ (by decide) f
    · exact zkg hL (fw .expr) (ih .expr)
theorem zgA {t:List UInt8} (ht:¬ 120<t.length) {l:List Tok} (hl:za9 t = .ok l):∃ y s,rLev l 1008 .expr ⟨0,false,-1⟩=some (y,s)∧s.i≤l.length∧endR t l y s=zaw t∧(s.bad=false→∀ d,szG d y≤120):=by
  obtain ⟨y,s,h1,h2,h3⟩:=zhO ht hl;refine ⟨y,s,h1,h2,h3,fun hb => ?_⟩
  obtain ⟨hw,hlen⟩:=zbu hl;obtain ⟨v,hv⟩:=zdT (zcR hw) 1000 .expr 0 (-1) (by simp [zek];omega);obtain ⟨y',s',hy',ho⟩:=zei hw 1000 .expr 0 (-1) v (Nat.zero_le _) hv;rw [show 1000+8=1008 from rfl,h1] at hy';injection hy' with hy'
  injection hy' with e1 e2
  subst e1;subst e2
  rcases v with ⟨a,er⟩ | ⟨x,j,la⟩
  · exact absurd ho.1 (by rw [hb];decide)
  · obtain ⟨rfl,rfl,hj⟩:=ho
    intro d
    have:=zi2 (zcR hw) 1000 .expr _ _ _ _ _ hv d
    omega
end Go.Proofs.YtcikenlflcofbaaGreatDoor
set_option maxRecDepth 100000
set_option maxHeartbeats 8000000
namespace Go.Proofs.YtcikenlflcofbaaGreatDoor
open Go.RowKit
def RetPq (t:List UInt8) (w:World) (e:Ending) (w':World):Prop:=
  ∃ op n nm A c ks,(zaw t).1 = .mk op n nm ks∧e = .returned (.tuple #[.agg #[.int .i64 op,.int .i64 n,.string ⟨nm.toArray⟩,.slice A ks.length c],.int .i64 (zaw t).2.1,.int .i64 (zaw t).2.2])∧XI w' op n nm A c ks∧Below w.heap.size w w'∧Rw ExV 4 w' (New w w') A ks.length ks
theorem RetPq.zero {t:List UInt8} {w w':World} {a er:Int} (h:zaw t=(.zero,a,er)) (hb:Below w.heap.size w w'):RetPq t w (.returned (.tuple #[.agg #[.int .i64 0,.int .i64 0,.string ⟨#[]⟩,.slice Option.none 0 0],.int .i64 a,.int .i64 er])) w' :=
  ⟨0,0,[],Option.none,0,[],by rw [h];rfl,by rw [h];rfl,⟨Nat.le_refl _,by unfold maxLen;decide,⟨by decide,by decide,by simp⟩,Rw.nil⟩,hb,Rw.nil⟩
theorem zkF {t:List UInt8} {a e:Int} (h:za9 t = .error (a,e)):e≠0:=by
  rintro rfl
  have key:∀ f i acc,zbX t f i acc ≠ .error (a,0):=by
    intro f
    induction f with
    | zero=>intro i acc q;cases q
    | succ f ih =>
      intro i acc q;unfold zbX at q
      split at q
      · cases q
      · rename_i c hc
        split at q
        · rename_i e' he'
          cases q
          unfold zgI at he'
          repeat' split at he'
          all_goals first | cases he' | (injection he' with he';injection he' with _ he';exact absurd he' (by decide))
        · exact ih _ _ q
        · exact ih _ _ q
  exact key _ _ _ h
theorem zgz (t:List UInt8):(120<t.length∧zaw t=(.zero,0,4))∨(¬ 120<t.length∧∃ a e,za9 t = .error (a,e)∧e≠0∧zaw t=(.zero,a,e)) ∨
    (¬ 120<t.length∧∃ l y s,za9 t = .ok l∧rLev l 1008 .expr ⟨0,false,-1⟩=some (y,s)∧s.i≤l.length∧endR t l y s=zaw t∧(s.bad=false→∀ d,szG d y≤120)):=by
  have hp:=zdb t;unfold zbw at hp
  by_cases hl:120<t.length
  · rw [if_pos hl] at hp
    injection hp with hp
    exact .inl ⟨hl,hp.symm⟩
  · rw [if_neg hl] at hp
    cases ht:za9 t with
    | error e =>
      obtain ⟨a,e⟩:=e
      rw [ht] at hp
      injection hp with hp
      exact .inr (.inl ⟨hl,a,e,rfl,zkF ht,hp.symm⟩)
    | ok l =>
      obtain ⟨y,s,h1,h2,h3,h4⟩:=zgA hl ht
      exact .inr (.inr ⟨hl,l,y,s,rfl,h1,h2,h3,h4⟩)
theorem zbI {n:Nat} {w w':World} (h:Below n w w') {b:Nat} (hb:n≤b) (v0 v1 v2 v3:Value):Below n w (set4 w' b v0 v1 v2 v3):=
  (((h.setCell (p:=⟨b,0,none⟩) hb v0).setCell (p:=⟨b,1,none⟩) hb v1).setCell (p:=⟨b,2,none⟩) hb v2).setCell (p:=⟨b,3,none⟩) hb v3
theorem zjp (t:List UInt8) (w:World):Calls Tryz.prog 21 #[.string ⟨t.toArray⟩] w (RetPq t w):=by
  have hb0:=zaa w (Obj.cells #[.int .i64 0,.int .i64 0,.string ⟨#[]⟩,.slice Option.none 0 0] 48);have hZ:=ZB.new w;have HB0:=Hi hb0;have HZ:=Hi hZ;clear hb0 hZ
  rcases zgz t with ⟨hl,hp⟩ | ⟨hl,a,er,ht,he0,hp⟩ | ⟨hl,l,y,s,ht,hrd,hsi,hend,hsz⟩
  · have HP:=Hi hp
    clear hp
    go_enter Tryz.func21,Tryz.ntmps21
    go_wp2
    exact bodyPost_ret (v := .tuple #[.agg #[.int .i64 0,.int .i64 0,.string ⟨#[]⟩,.slice Option.none 0 0],.int .i64 0,.int .i64 4]) (by simp [results,Tryz.results21,go_sem]) rfl (RetPq.zero HP.out HB0.out)
  · have HC:=Hi (fun W=>zgW t (by omega) W)
    rw [ht] at HC
    have HP:=Hi hp
    have ee:(er != 0)=true:=by simp [he0]
    clear hp ht he0
    go_enter Tryz.func21,Tryz.ntmps21
    go_wp2_with fail
    refine (HC.out _).mono ?_
    rintro e w1 ⟨rfl,hb1⟩
    have HB1:=Hi (zac HB0.out hb1 HB0.out.size)
    have HZ1:=Hi (HZ.out.below hb1)
    clear hb1 HZ HB0 HC
    obtain ⟨q0,q1,q2,q3,z0,z1,z2,z3⟩:=XV.cells (HZ1.out)
    have hzz:=XV.lt (HZ1.out)
    have HPT:=Hi (zak (HZ1.out) 0 0 [] Option.none 0 0)
    have HBB:=Hi (zbI (HB1.out) (Nat.le_refl _) (.int .i64 0) (.int .i64 0) (.string ⟨#[]⟩) (.slice Option.none 0 0))
    have HPE:=Hi (HP.out)
    go_wp2
    change bodyPost _ _ _ _ _ (set4 w1 w.heap.size (.int .i64 0) (.int .i64 0) (.string ⟨#[]⟩) (.slice Option.none 0 0))
    obtain ⟨r0,r1,r2,r3,-,-,-,-⟩:=HPT.out.cells
    exact bodyPost_ret (v := .tuple #[.agg #[.int .i64 0,.int .i64 0,.string ⟨#[]⟩,.slice Option.none 0 0],.int .i64 a,.int .i64 er]) (by simp [results,Tryz.results21,go_sem,r0,r1,r2,r3]) rfl (RetPq.zero HPE.out HBB.out)
  have HC:=Hi (fun W=>zgW t (by omega) W);rw [ht] at HC;have HRD:=Hi hrd;have HTK:=Hi (zbu ht);have HEND:=Hi hend;have HSZ:=Hi hsz;have HRA:=Hi (fun rb A c=>zkm (rb:=rb) (A:=A) (c:=c) (t:=t) (l:=l) 1008);have htl:t.length≤120:=Nat.le_of_not_lt hl;have hll:l.length≤120:=Nat.le_trans (zbu ht).2 htl;clear ht hrd hend hsz;go_enter Tryz.func21,Tryz.ntmps21;go_wp2_with fail
  refine (HC.out _).mono ?_
  rintro e w1 ⟨v,rfl,hown,hb1⟩
  obtain ⟨A,c,rfl,hac,hcm⟩:=zag hown;have HB1:=Hi (zac HB0.out hb1 HB0.out.size);have HZ1:=Hi (HZ.out.below hb1);have hs1:=HB1.out.size;have hz1:=XV.lt HZ1.out;have hbx:=zaa w1 (zdY A c l ⟨0,false,-1⟩)
  have hrs:RS w1.heap.size A c t l ⟨0,false,-1⟩ (w1.alloc (zdY A c l ⟨0,false,-1⟩)):=by
    refine ⟨heap_alloc_new w1 _,?_,Nat.zero_le _,HTK.out.2,htl,HTK.out.1⟩
    have h:=Rw.of_own (R:=TkrC) (S:=fun b=>b<w1.heap.size) (f:=tkC) hown rfl (fun _ _=>rfl) (fun _ _=>rfl) (fun b _ h=>h);exact h.mono TkrC.mono (fun b hb=>⟨by rw [World.size_alloc];omega,by omega⟩) (zab hbx fun b hb=>hb)
  have HTR:=Hi (Rw.of_own (R:=TkrC) (S:=fun b=>w.heap.size<b∧b<w1.heap.size) (f:=tkC) hown rfl (fun _ _=>rfl) (fun _ _=>rfl) (fun b h1 h=>⟨by rw [World.size_alloc] at h1;omega,h⟩));have HRS:=Hi hrs;have HBX:=Hi hbx;have HCR:=Hi (HRA.out _ _ _ _ _ _ _ hrs HRD.out);unfold zdY at HBX HCR HRS;clear hb1 hown hrs hbx HC HZ HB0 HRA HRD;go_wp2_with fail
  refine HCR.out.mono ?_
  rintro e w2 ⟨op,n,nm,A1,c1,ks,rfl,rfl,hc1,hm1,hp1,hr1,hl1,hi1⟩
  unfold exV;have hs2:=hl1.1.size;rw [World.size_alloc] at hs2;have hl1':LeftR w1.heap.size A c l s (w1.alloc (Obj.cells #[.slice A l.length c,.int .i64 0,.bool false,.int .i64 (-1)] 96)) w2:=hl1;have hZ2:=(HZ1.out.below (zaa w1 _)).leftR hl1' (by omega);have hB2:Below w.heap.size w w2:=HB1.out.grown ((World.grownBy_alloc w1 _ (some w1.heap.size)).trans hl1'.1) hs1 (fun j hj=>by cases hj;exact hs1);have hS2:=HRS.out.left hl1' hi1;have HT2:=Hi (HTR.out.mono TkrC.mono (fun b hb=>hb) ((zab (S:=fun b=>w.heap.size<b∧b<w1.heap.size) (zaa w1 (Obj.cells #[.slice A l.length c,.int .i64 0,.bool false,.int .i64 (-1)] 96)) fun b hb=>hb.2).trans (zah hl1'.1 fun b hb=>⟨by rw [World.size_alloc];omega,fun q=>by have:=hb.2;injection q;omega⟩)));have hx3:=zaa w2 (Obj.cells #[.int .i64 op,.int .i64 n,.string ⟨nm.toArray⟩,.slice A1 ks.length c1] 48);have HX:=Hi (XV.new w2 op n nm A1 ks.length c1);have HRW:=Hi (hr1.mono (S':=fun b=>w.heap.size<b∧b<w2.heap.size) ExV.mono (fun b hb=>⟨by have:=hb.1;rw [World.size_alloc] at this;omega,hb.2⟩) (KeepOn.refl _ _));have HX3K:=Hi (zab (S:=fun b=>b<w2.heap.size) hx3 fun b hb=>hb);have HSX:=Hi hx3.size;have hI2:XI w2 op n nm A1 c1 ks:=⟨hc1,hm1,hp1,hr1.mono ExV.mono (fun b hb=>hb.2) (KeepOn.refl _ _)⟩;have HI3:=Hi (hI2.below hx3);have HZ3:=Hi (hZ2.below hx3);have HB3:=Hi (zac hB2 hx3 hB2.size);have hS3:=hS2.below hx3;have HS2:=Hi hS2;obtain ⟨p0,p1,p2,p3,f1,f2,f3⟩:=hS3.cells;have hpl:=hS3.ltp;have HS3:=Hi hS3;clear hl1 hl1' hr1 hZ2 hB2 hS2 hx3 hI2 hS3 HCR HRS HBX HZ1 HB1;obtain ⟨i,bad,la⟩:=s;dsimp only at p0 p1 p2 p3 hsi;have hen:=HEND.out;unfold endR at hen
  by_cases hbi:bad=true∨i<l.length
  · rw [if_pos hbi] at hen
    have hcs:bad=true∨bad=false∧decide (i<l.length)=true:=by
      rcases hbi with q | q
      · exact .inl q
      · cases bad
        · exact .inr ⟨rfl,by simpa using q⟩
        · exact .inl rfl
    by_cases hi:i<l.length
    · rw [if_pos hi] at hen
      obtain ⟨b,o,cs,x,hA,⟨hb4,hb5⟩,hx,-,hR,hat⟩:=HT2.out.at_ hi
      obtain rfl:cs=_:=hR
      have htx:tk l i=x:=by unfold tk;rw [List.getD_eq_getElem?_getD,hx];rfl
      subst hA
      have t0:=hat 0 _ rfl
      have t2:=hat 2 _ rfl
      dsimp only at hen t0 t2
      rw [htx] at hen
      have hb6:b<w2.heap.size:=by omega
      clear hat hx htx
      have HPE0:=Hi hen.symm
      clear hen hbi HEND HSZ
      rcases hcs with rfl | ⟨rfl,dq⟩
      all_goals
        obtain ⟨q0,q1,q2,q3,z0,z1,z2,z3⟩:=XV.cells (HZ3.out)
        have hzz:=XV.lt (HZ3.out)
        have HPT:=Hi (zak (HZ3.out) 0 0 [] Option.none 0 0)
        have HBB:=Hi (zbI (HB3.out) (Nat.le_refl _) (.int .i64 0) (.int .i64 0) (.string ⟨#[]⟩) (.slice Option.none 0 0))
        have HPE:=Hi (HPE0.out)
        go_wp2
        go_region
        go_wp2
        change bodyPost _ _ _ _ _ (set4 (w2.alloc (Obj.cells #[.int .i64 op,.int .i64 n,.string ⟨nm.toArray⟩,.slice A1 ks.length c1] 48)) w.heap.size (.int .i64 0) (.int .i64 0) (.string ⟨#[]⟩) (.slice Option.none 0 0)).drew
        obtain ⟨r0,r1,r2,r3,-,-,-,-⟩:=HPT.out.cells
        exact bodyPost_ret (v := .tuple #[.agg #[.int .i64 0,.int .i64 0,.string ⟨#[]⟩,.slice Option.none 0 0],.int .i64 x.pos,.int .i64 6]) (by simp [results,Tryz.results21,go_sem,r0,r1,r2,r3]) rfl (RetPq.zero HPE.out ⟨HBB.out.os,HBB.out.tape,HBB.out.output,HBB.out.size,HBB.out.block⟩)
    · rw [if_neg hi] at hen
      have HPE0:=Hi hen.symm
      have dq2:decide (i<l.length)=false:=by simpa using hi
      obtain rfl:bad=true:=by
        rcases hcs with q | ⟨-,q⟩
        · exact q
        · rw [dq2] at q;cases q
      clear hen hbi HEND HSZ hcs
      obtain ⟨q0,q1,q2,q3,z0,z1,z2,z3⟩:=XV.cells (HZ3.out)
      have hzz:=XV.lt (HZ3.out)
      have HPT:=Hi (zak (HZ3.out) 0 0 [] Option.none 0 0)
      have HBB:=Hi (zbI (HB3.out) (Nat.le_refl _) (.int .i64 0) (.int .i64 0) (.string ⟨#[]⟩) (.slice Option.none 0 0))
      have HPE:=Hi (HPE0.out)
      go_wp2
      change bodyPost _ _ _ _ _ (set4 (w2.alloc (Obj.cells #[.int .i64 op,.int .i64 n,.string ⟨nm.toArray⟩,.slice A1 ks.length c1] 48)) w.heap.size (.int .i64 0) (.int .i64 0) (.string ⟨#[]⟩) (.slice Option.none 0 0))
      obtain ⟨r0,r1,r2,r3,-,-,-,-⟩:=HPT.out.cells
      exact bodyPost_ret (v := .tuple #[.agg #[.int .i64 0,.int .i64 0,.string ⟨#[]⟩,.slice Option.none 0 0],.int .i64 t.length,.int .i64 6]) (by simp [results,Tryz.results21,go_sem,r0,r1,r2,r3]) rfl (RetPq.zero HPE.out HBB.out)
  rw [if_neg hbi] at hen;obtain rfl:bad=false:=by cases bad;rfl;exact absurd (.inl rfl) hbi
  have dq:decide (i<l.length)=false:=by
    have:¬ i<l.length:=fun q=>hbi (.inr q)
    simpa using this
  dsimp only at hen
  by_cases hla:0≤la
  · rw [if_pos hla] at hen
    have HPE0:=Hi hen.symm
    clear hen hbi HEND HSZ
    obtain ⟨q0,q1,q2,q3,z0,z1,z2,z3⟩:=XV.cells (HZ3.out)
    have hzz:=XV.lt (HZ3.out)
    have HPT:=Hi (zak (HZ3.out) 0 0 [] Option.none 0 0)
    have HBB:=Hi (zbI (HB3.out) (Nat.le_refl _) (.int .i64 0) (.int .i64 0) (.string ⟨#[]⟩) (.slice Option.none 0 0))
    have HPE:=Hi (HPE0.out)
    go_wp2
    go_region
    go_wp2
    change bodyPost _ _ _ _ _ (set4 (w2.alloc (Obj.cells #[.int .i64 op,.int .i64 n,.string ⟨nm.toArray⟩,.slice A1 ks.length c1] 48)) w.heap.size (.int .i64 0) (.int .i64 0) (.string ⟨#[]⟩) (.slice Option.none 0 0)).drew
    obtain ⟨r0,r1,r2,r3,-,-,-,-⟩:=HPT.out.cells
    exact bodyPost_ret (v := .tuple #[.agg #[.int .i64 0,.int .i64 0,.string ⟨#[]⟩,.slice Option.none 0 0],.int .i64 la,.int .i64 2]) (by simp [results,Tryz.results21,go_sem,r0,r1,r2,r3]) rfl (RetPq.zero HPE.out ⟨HBB.out.os,HBB.out.tape,HBB.out.output,HBB.out.size,HBB.out.block⟩)
  rw [if_neg hla] at hen;have HCV:=Hi (zga HI3.out (fun d _=>Nat.le_trans (HSZ.out rfl d) (by decide)))
  cases hv:zaR (.mk op n nm ks) with
  | false =>
    rw [hv] at hen HCV;rw [if_neg Bool.false_ne_true] at hen;have HPE0:=Hi hen.symm;obtain ⟨x0,x1,x2,x3,-,-,-,-⟩:=HX.out.cells;clear hen hbi HEND HSZ hv;go_wp2_with fail
    refine HCV.out.mono ?_
    rintro e w4 ⟨rfl,hb4⟩
    have HZ4:=Hi (HZ3.out.below hb4);have HB4:=Hi (zac HB3.out hb4 HB3.out.size);clear hb4 HZ3 HB3 x0 x1 x2 x3;obtain ⟨q0,q1,q2,q3,z0,z1,z2,z3⟩:=XV.cells (HZ4.out);have hzz:=XV.lt (HZ4.out);have HPT:=Hi (zak (HZ4.out) 0 0 [] Option.none 0 0);have HBB:=Hi (zbI (HB4.out) (Nat.le_refl _) (.int .i64 0) (.int .i64 0) (.string ⟨#[]⟩) (.slice Option.none 0 0));have HPE:=Hi (HPE0.out);go_wp2
    change bodyPost _ _ _ _ _ (set4 w4 w.heap.size (.int .i64 0) (.int .i64 0) (.string ⟨#[]⟩) (.slice Option.none 0 0))
    obtain ⟨r0,r1,r2,r3,-,-,-,-⟩:=HPT.out.cells;exact bodyPost_ret (v := .tuple #[.agg #[.int .i64 0,.int .i64 0,.string ⟨#[]⟩,.slice Option.none 0 0],.int .i64 0,.int .i64 17]) (by simp [results,Tryz.results21,go_sem,r0,r1,r2,r3]) rfl (RetPq.zero HPE.out HBB.out)
  | true =>
    rw [hv] at hen HCV;rw [if_pos rfl] at hen;have HPE0:=Hi hen.symm;obtain ⟨x0,x1,x2,x3,-,-,-,-⟩:=HX.out.cells;clear hen hbi HEND HSZ hv;go_wp2_with fail
    refine HCV.out.mono ?_
    rintro e w4 ⟨rfl,hb4⟩
    have HZ4:=Hi (HZ3.out.below hb4);have HB4:=Hi (zac HB3.out hb4 HB3.out.size);have HI4:=Hi (HI3.out.below hb4);have HK4:=Hi (HX3K.out.trans (zab (S:=fun b=>b<w2.heap.size) hb4 fun b hb=>Nat.lt_of_lt_of_le hb HSX.out));have hs24:=Nat.le_trans HSX.out hb4.size;have hX4:=HX.out.below hb4;clear x0 x1 x2 x3;obtain ⟨x0,x1,x2,x3,-,-,-,-⟩:=hX4.cells;have hxl:=hX4.lt;clear hb4 HZ3 HB3 hX4;obtain ⟨q0,q1,q2,q3,z0,z1,z2,z3⟩:=XV.cells HZ4.out;have hzz:=XV.lt HZ4.out;have HPT:=Hi (zak HZ4.out op n nm A1 ks.length c1);have HBB:=Hi (zbI HB4.out (Nat.le_refl _) (.int .i64 op) (.int .i64 n) (.string ⟨nm.toArray⟩) (.slice A1 ks.length c1));have hS4:=zaz w4 w.heap.size (.int .i64 op) (.int .i64 n) (.string ⟨nm.toArray⟩) (.slice A1 ks.length c1);have hG4:=zaD w4 w.heap.size (.int .i64 op) (.int .i64 n) (.string ⟨nm.toArray⟩) (.slice A1 ks.length c1);have HS4:=Hi hS4;have HG4:=Hi hG4;clear hS4 hG4;go_wp2
    change bodyPost _ _ _ _ _ (set4 w4 w.heap.size (.int .i64 op) (.int .i64 n) (.string ⟨nm.toArray⟩) (.slice A1 ks.length c1))
    obtain ⟨r0,r1,r2,r3,-,-,-,-⟩:=HPT.out.cells;refine bodyPost_ret (v := .tuple #[.agg #[.int .i64 op,.int .i64 n,.string ⟨nm.toArray⟩,.slice A1 ks.length c1],.int .i64 0,.int .i64 0]) (by simp [results,Tryz.results21,go_sem,r0,r1,r2,r3]) rfl ?_
    have hfin:Rw ExV 4 (set4 w4 w.heap.size (.int .i64 op) (.int .i64 n) (.string ⟨nm.toArray⟩) (.slice A1 ks.length c1)) (New w (set4 w4 w.heap.size (.int .i64 op) (.int .i64 n) (.string ⟨nm.toArray⟩) (.slice A1 ks.length c1))) A1 ks.length ks:=HRW.out.mono ExV.mono (fun b hb=>by have:=HS4.out;have:=hb.1;have:=hb.2;exact ⟨by omega,by omega⟩) ((HK4.out.mono fun b hb=>hb.2).trans (zah HG4.out fun b hb=>⟨Nat.lt_of_lt_of_le hb.2 hs24,fun q=>by have:=hb.1;injection q;omega⟩));exact ⟨op,n,nm,A1,c1,ks,by rw [HPE0.out],by rw [HPE0.out],⟨HI4.out.hc,HI4.out.hm,HI4.out.hp,hfin.mono ExV.mono (fun b hb=>hb.2) (KeepOn.refl _ _)⟩,HBB.out,hfin⟩
end Go.Proofs.YtcikenlflcofbaaGreatDoor
