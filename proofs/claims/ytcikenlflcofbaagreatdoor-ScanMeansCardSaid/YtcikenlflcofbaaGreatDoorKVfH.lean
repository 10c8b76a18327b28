/-
  The reference's Same at one expression that lies twice; the law's known.
-/
import Derived.Test.YtcikenlflcofbaaGreatDoorParse
import Derived.Test.YtcikenlflcofbaaGreatDoorM1
import Derived.Test.YtcikenlflcofbaaGreatDoorP1
import Derived.Carry
import Derived.Test.YtcikenlflcofbaaGreatDoorEmP
import Derived.Test.YtcikenlflcofbaaGreatDoorWN
namespace Go.Proofs.YtcikenlflcofbaaGreatDoor
open Go.RowKit
theorem zfA {d:Nat} {w:World} {S:Nat→Prop} {A:Option Addr} {n:Nat} {ks:List Ex} (h:Rw (ExC d) 4 w S A n ks) {k:Nat} (hk:k<n) :
    ∃ d' b o op m nm A' c' ys,d=d'+1∧A=some ⟨b,o,none⟩∧S b∧ks[k]? = some (.mk op m nm ys)∧ys.length≤c'∧c'≤maxLen∧ExP op m nm∧Rw (ExC d') 4 w S A' ys.length ys∧XB w b (o+k*4) op m nm A' ys.length c':=by
  obtain ⟨b,o,cs,x,e,hb,hx,_,hv,hat⟩:=h.at_ hk;obtain ⟨op,m,nm,ys⟩:=x
  cases d with
  | zero=>exact hv.elim
  | succ d =>
    obtain ⟨A',c',rfl,h1,h2,h3,h4⟩:=hv;exact ⟨d,b,o,op,m,nm,A',c',ys,rfl,e,hb,hx,h1,h2,h3,h4,XB.of hat⟩
theorem zlh {w:World} {p:Addr} {v:Value} (h:w.cell? p=some v):p.block<w.heap.size:=by
  rcases Nat.lt_or_ge p.block w.heap.size with q | q
  · exact q
  · simp only [World.cell?] at h
    rw [Array.getElem?_eq_none q] at h
    cases h
theorem zcD {w w':World} {p:Addr} {v:Value} (h:w.cell? p=some v) (hb:Below w.heap.size w w'):w'.cell? p=some v:=(hb.cell (p:=p) (zlh h)).trans h
end Go.Proofs.YtcikenlflcofbaaGreatDoor
namespace Go.Proofs.YtcikenlflcofbaaGreatDoor
open Go.RowKit
structure XI (w:World) (op n:Int) (nm:List UInt8) (A:Option Addr) (c:Nat) (ks:List Ex):Prop where
  hc:ks.length≤c
  hm:c≤maxLen
  hp:ExP op n nm
  rw:Rw ExV 4 w (fun b=>b<w.heap.size) A ks.length ks
theorem XI.below {w w':World} {op n:Int} {nm:List UInt8} {A:Option Addr} {c:Nat} {ks:List Ex} (h:XI w op n nm A c ks) (hb:Below w.heap.size w w'):XI w' op n nm A c ks:=
  ⟨h.hc,h.hm,h.hp,h.rw.mono ExV.mono (fun _ q=>Nat.lt_of_lt_of_le q hb.size) (zab hb fun _ q=>q)⟩
theorem XV.below {w w':World} {b:Nat} {op n:Int} {nm:List UInt8} {A:Option Addr} {k c:Nat} (h:XV w b op n nm A k c) (hb:Below w.heap.size w w'):XV w' b op n nm A k c:=h.grown (zap (row:=Option.none) hb) (by simp)
theorem za6 {t:List UInt8} (h:(zaw t).2.2=0):zaR (zaw t).1=true:=by
  have hF:=zdb t;generalize zaw t=r at *;unfold zbw at hF
  split at hF
  · cases hF;exact absurd h (by decide)
  · cases hT:za9 t with
    | error e =>
      rw [hT] at hF
      exfalso
      obtain ⟨p,er⟩:=e
      simp only [Option.some.injEq] at hF
      subst hF
      dsimp only at h
      subst h
      have key:∀ f i acc,zbX t f i acc ≠ .error (p,0):=by
        intro f
        induction f with
        | zero=>intro i acc q;cases q
        | succ f ih =>
          intro i acc q
          unfold zbX at q
          split at q
          · cases q
          · rename_i c hc
            split at q
            · rename_i e' he'
              cases q
              unfold zgI at he'
              repeat' split at he'
              all_goals first | cases he' | (injection he' with he';injection he' with _ he';exact absurd he' (by decide))
            · exact ih _ _ q
            · exact ih _ _ q
      exact key _ _ _ hT
    | ok l =>
      rw [hT] at hF
      simp only at hF
      split at hF
      · cases hF
      · rename_i a' e' hq
        simp only [Option.some.injEq] at hF
        subst hF
        dsimp only at h
        subst h
        exact (zkf hq).elim
      · injection hF with hF
        unfold endP at hF
        split at hF
        · subst hF;exact absurd (show (6:Int)=0 from h) (by decide)
        split at hF
        · subst hF;exact absurd (show (2:Int)=0 from h) (by decide)
        split at hF
        · rename_i hv;subst hF;exact hv
        · subst hF;exact absurd (show (17:Int)=0 from h) (by decide)
end Go.Proofs.YtcikenlflcofbaaGreatDoor
set_option maxRecDepth 100000
set_option maxHeartbeats 8000000
namespace Go.Proofs.YtcikenlflcofbaaGreatDoor
open Go.RowKit
def kF (env:List Sg) (s:ByteArray):Option Value:=(zay env s.data.toList).map fun k => .int .i64 k
theorem ziM (env:List Sg) (s:List UInt8):kF env ⟨s.toArray⟩=(zay env s).map fun k => .int .i64 k:=rfl
theorem ziN (pre:List Sg) (s:Sg) (h:zay pre s.nm=none):kF (pre++[s])=putS (kF pre) ⟨s.nm.toArray⟩ (.int .i64 s.kind):=by
  funext x
  unfold kF putS;rw [zd6 pre s h]
  by_cases hx:x.data.toList=s.nm
  · rw [if_pos hx,if_pos (by rw [zaQ,zaQ,hx])];rfl
  · rw [if_neg hx,if_neg (fun q=>hx (by rw [zaQ,zaQ] at q;exact q))]
abbrev KMap (w:World) (b n:Nat) (env:List Sg):Prop:=MapS Tryz.prog 9 3 w b n (kF env)
def RetTab (env:List Sg) (w:World) (e:Ending) (w':World):Prop:=
  Below w.heap.size w w'∧((zbn env=true∧∃ b,e = .returned (.tuple #[.map (some b),.bool true])∧w.heap.size≤b∧KMap w' b env.length env)∨(zbn env=false∧e = .returned (.tuple #[.map Option.none,.bool false])))
def TabR (w:World) (env:List Sg) (g:Nat) (v:Value) (wr:World):Prop:=
  ∃ k:Nat,k≤env.length∧env.length-k<g∧v = .int .i64 (k:Int)∧zco (env.take k) (env.drop k)=zbn env∧KMap wr w.heap.size k (env.take k)∧Below w.heap.size w wr
theorem zjC (A:Option Addr) (c:Nat) (env:List Sg) (w:World) (hc:env.length≤c) (hm:c≤maxLen) (hr:Rw SgC 2 w (fun b=>b<w.heap.size) A env.length env) :
    Calls Tryz.prog 46 #[.slice A env.length c] w (RetTab env w):=by
  have hmm := @run_makeMap Tryz.prog;have HR:=Hi hr;clear hr;unfold maxLen at hm;have hbx:=zaa w (Obj.map #[] 0);have HBX:=Hi hbx;clear hbx;go_enter Tryz.func46,Tryz.ntmps46;go_wp2;clear hmm;go_loopg [12] (env.length+1) (fun g v wr=>TabR w env g v wr)
  case atStart=>exact ⟨0,Nat.zero_le _,by omega,rfl,by rw [List.take_zero,List.drop_zero];rfl,by rw [List.take_zero];exact MapS.made Tryz.prog 9 3 w,HBX.out⟩
  case round =>
    obtain ⟨k,hk,hgk,rfl,hgood,hmap,hbel⟩:=hrel;have hs:=hmap.block
    by_cases hlt:k<env.length
    case neg =>
      obtain rfl:k=env.length:=by omega
      rw [List.drop_length] at hgood;rw [List.take_length] at hmap;have HG:=Hi (show zbn env=true from hgood.symm);have HM:=Hi hmap;have HB:=Hi hbel;clear hgood hmap hbel hlt;go_wp2;exact bodyPost_ret (v := .tuple #[.map (some w.heap.size),.bool true]) (by simp [results,Tryz.results46,go_sem]) rfl ⟨HB.out,.inl ⟨HG.out,_,rfl,Nat.le_refl _,HM.out⟩⟩
    obtain ⟨b,o,s,hA,hSb,hx,hxl,hxw,y0,y1⟩:=sgAt (HR.out.mono SgC.mono (fun _ q=>q) (zab hbel fun _ q=>q)) hlt;subst hA
    have hget:env[k]=s:=by
      rw [List.getElem?_eq_getElem hlt] at hx;injection hx
    rw [List.drop_eq_getElem_cons hlt,hget] at hgood;unfold zco at hgood
    have htake:env.take (k+1)=env.take k++[s]:=by
      rw [List.take_succ_eq_append_getElem hlt,hget]
    rw [← htake] at hgood;have hbk:b<wr.heap.size:=Nat.lt_of_lt_of_le hSb hbel.size;obtain ⟨nm,kd⟩:=s;dsimp only at *;have hml:=hmap.alloc (Obj.cells #[.string ⟨nm.toArray⟩,.int .i64 kd] 40);have hbx:=zac hbel (zaa wr (Obj.cells #[.string ⟨nm.toArray⟩,.int .i64 kd] 40)) hbel.size;have hsz:(⟨nm.toArray⟩:ByteArray).size≤maxLen:=by simpa [ByteArray.size] using hxl
    have C:=fun W=>zdS nm W hxl
    unfold sgB at hgood;dsimp only at hgood;generalize hNB:zbj nm=nb at *;clear hNB;have HC:=Hi C;have HB:=Hi hbx;have HT:=Hi htake;have hlk:=hml.look (t := 68) Tryz.underlying9 Tryz.underlying68 (zdB _) hsz true;rw [ziM] at hlk;clear C hbx htake hx hget hbel hmap hSb
    cases nb with
    | false =>
      have HG:=Hi (show zbn env=false by rw [← hgood];rfl);clear hgood hlk hml;go_wp2_with fail
      refine (HC.out _).mono ?_
      rintro e w5 ⟨rfl,rfl⟩
      go_wp2;exact bodyPost_ret (v := .tuple #[.map Option.none,.bool false]) (by simp [results,Tryz.results46,go_sem]) rfl ⟨HB.out,.inr ⟨HG.out,rfl⟩⟩
    | true =>
      by_cases hkd:kd=1∨kd=2
      case neg =>
        have HG:=Hi (show zbn env=false by rw [← hgood];simp [hkd]);have k1:(kd != 1)=true:=by simp;exact fun q=>hkd (.inl q)
        have k2:(kd != 2)=true:=by simp;exact fun q=>hkd (.inr q)
        clear hgood hlk hml hkd;go_wp2_with fail
        refine (HC.out _).mono ?_
        rintro e w5 ⟨rfl,rfl⟩
        go_wp2;exact bodyPost_ret (v := .tuple #[.map Option.none,.bool false]) (by simp [results,Tryz.results46,go_sem]) rfl ⟨HB.out,.inr ⟨HG.out,rfl⟩⟩
      have hkw:(kd != 1)=false∨(kd != 1)=true∧(kd != 2)=false:=by
        rcases hkd with rfl | rfl
        · exact .inl rfl
        · exact .inr ⟨rfl,rfl⟩
      cases hko:zay (env.take k) nm with
      | some v =>
        have HG:=Hi (show zbn env=false by rw [← hgood,hko];simp);rw [hko] at hlk;simp only [if_true,Option.map_some,Option.getD_some,Option.isSome_some] at hlk;clear hgood hml hkd hko
        rcases hkw with k1 | ⟨k1,k2⟩
        all_goals
          go_wp2_with fail
          refine (HC.out _).mono ?_
          rintro e w5 ⟨rfl,rfl⟩
          go_wp2;exact bodyPost_ret (v := .tuple #[.map Option.none,.bool false]) (by simp [results,Tryz.results46,go_sem]) rfl ⟨HB.out,.inr ⟨HG.out,rfl⟩⟩
      | none =>
        have HG:=Hi (show zco (env.take (k+1)) (env.drop (k+1))=zbn env by rw [← hgood,hko];rcases hkd with rfl | rfl <;> simp);rw [hko] at hlk;simp only [if_true,Option.map_none,Option.getD_none,Option.isSome_none] at hlk;obtain ⟨w',hup,hm',hg⟩:=hml.store (t := 68) Tryz.underlying9 Tryz.underlying68 (by unfold maxLen;omega) hsz (plainElem_int Tryz.underlying3 (a:=kd) hxw);rw [← ziN (env.take k) ⟨nm,kd⟩ hko,← HT.out] at hm';have HM:=Hi hm';have HB2:=Hi (HB.out.grown hg (by have:=hml.block;omega) (fun j hj=>by cases hj;exact Nat.le_refl _));clear hgood hml hkd hko hm' hg
        rcases hkw with k1 | ⟨k1,k2⟩
        all_goals
          go_wp2_with fail
          refine (HC.out _).mono ?_
          rintro e w5 ⟨rfl,rfl⟩
          go_wp2;go_roundg (env.length-k)
          case measure=>omega
          case rel=>exact ⟨k+1,by omega,by omega,by go_num,HG.out,HM.out,HB2.out⟩
end Go.Proofs.YtcikenlflcofbaaGreatDoor
set_option maxRecDepth 100000
set_option maxHeartbeats 8000000
namespace Go.Proofs.YtcikenlflcofbaaGreatDoor
open Go.RowKit
def RetIB (z:Int) (w:World) (e:Ending) (w':World):Prop:=e = .returned (.int .i64 z)∧Below w.heap.size w w'
theorem RetIB.mk {z z':Int} {w w':World} (h:z'=z) (hb:Below w.heap.size w w'):RetIB z w (.returned (.int .i64 z')) w':=by subst h;exact ⟨rfl,hb⟩
abbrev nmV (s:List UInt8):Value := .string ⟨s.toArray⟩
theorem zfK:(Tryz.prog.info? 9).map (fun i=>(i.zero,i.size,i.bytes))=some (some (.string ⟨#[]⟩),1,16):=by kernel_rfl
theorem zeroBo (w:World):(zeroValue 4).run Tryz.prog w = .ok (.bool false) w:=by kernel_rfl
theorem zdi {α:Type} {R:World→(Nat→Prop)→List Value→α→Prop} {size n:Nat} {w:World} {S:Nat→Prop} {A:Option Addr} {xs:List α} (h:Rw R size w S A n xs):∀ x∈xs,∃ cs,R w S cs x:=by
  intro x hx;obtain ⟨k,hk⟩:=List.getElem?_of_mem hx;have hkn:k<n:=by have:=(List.getElem?_eq_some_iff.1 hk).1;have:=h.1;omega
  obtain ⟨b,o,cs,y,-,-,hy,-,hc,-⟩:=h.at_ hkn;rw [hk] at hy
  cases hy
  exact ⟨cs,hc⟩
theorem rw_src {w:World} {S:Nat→Prop} {A:Option Addr} {n:Nat} {l:List (List UInt8)} (h:Rw NmC 1 w S A n l):Src w 1 A n (l.map nmV):=by
  refine ⟨by rw [List.length_map,h.1];omega,fun hn => ?_⟩
  obtain ⟨b,o,e,-,hr⟩:=h.2 hn;refine ⟨_,e,fun j u hu => ?_⟩
  rw [List.getElem?_map] at hu;obtain ⟨s,hs,rfl⟩:=Option.map_eq_some_iff.1 hu;obtain ⟨cs,hl,⟨rfl,-⟩,hat⟩:=hr j s hs;rw [Addr.add_mid];simpa using hat 0 _ rfl
theorem zlA {w:World} {base n c:Nat} {e:TypeId} {A:Option Addr} {l:List (List UInt8)} (h:w.ownsRow base e 1 (.slice A n c) n (l.map nmV)) (hn:l.length=n) (hl:∀ s∈l,s.length≤maxLen):Rw NmC 1 w (Old w) A n l:=by
  refine Rw.of_own (f:=fun s=>[nmV s]) (base:=base) (e:=e) (c:=c) (by rw [← List.map_eq_flatMap];exact h) hn (fun _ _=>rfl) (fun s hs=>⟨rfl,hl s hs⟩) (fun b _ hb=>hb)
def zgb (pre:List (List UInt8)) (s:ByteArray):Option Value:=if s.data.toList∈pre then some (.bool true) else Option.none
theorem zjy:zgb []=fun _=>Option.none:=by funext s;simp [zgb]
theorem zh3 (pre:List (List UInt8)) (x:List UInt8):zgb (pre++[x])=putS (zgb pre) ⟨x.toArray⟩ (.bool true):=by
  funext s
  unfold zgb putS;rw [zaQ,zaQ]
  by_cases h:s.data.toList=x
  · simp [h]
  · simp [h]
theorem zjx (pre:List (List UInt8)) (x:List UInt8):(zgb pre ⟨x.toArray⟩).getD (.bool false) = .bool (decide (x∈pre)):=by
  unfold zgb
  by_cases h:x∈pre <;> simp [h]
theorem zgJ (pre l:List (List UInt8)) (s:List UInt8):zb7 pre (s::l)=(decide (s∈pre) || zb7 (pre++[s]) l):=rfl
def HdA (W0:World) (B:Nat) (ins:List Sg) (g:Nat) (v3 v46:Value) (wr:World):Prop:=
  ∃ k:Nat,k≤ins.length∧ins.length-k<g∧v46 = .int .i64 (k:Int)∧wr.ownsRow B 9 1 v3 k ((ins.take k).map fun s=>nmV s.nm)∧Below B W0 wr
def HdB (W4:World) (N:List (List UInt8)) (g:Nat) (v:Value) (wr:World):Prop:=
  ∃ k:Nat,k≤N.length∧N.length-k<g∧v = .int .i64 (k:Int)∧(N.drop k).all zbj=N.all zbj∧wr=W4
def HdC (W4:World) (N:List (List UInt8)) (g:Nat) (v:Value) (wr:World):Prop:=
  ∃ k:Nat,k≤N.length∧N.length-k<g∧v = .int .i64 (k:Int)∧zb7 (N.take k) (N.drop k)=zb7 [] N∧MapS Tryz.prog 9 4 wr W4.heap.size k (zgb (N.take k))∧Below W4.heap.size W4 wr
def HdD (W5:World) (ins:List Sg) (g:Nat) (v:Value) (wr:World):Prop:=
  ∃ k:Nat,k≤ins.length∧ins.length-k<g∧v = .int .i64 (k:Int)∧(ins.drop k).all zfN=ins.all zfN∧Below W5.heap.size W5 wr
theorem zhw {w:World} {p:Pg} {l:Pl} (hpg:PgI w (Old w) p l):Calls Tryz.prog 82 #[pgV p l] w (RetIB (hdrP p) w):=by
  obtain ⟨B1,k1,B2,k2,B3,k3,B4,k4⟩:=l;have HPG:=Hi hpg;have m1:=hpg.m1;have m2:=hpg.m2;have m3:=hpg.m3;have m4:=hpg.m4;have h1:=hpg.h1;have h2:=hpg.h2;have h3:=hpg.h3;have h4:=hpg.h4;dsimp only at m1 m2 m3 m4 h1 h2 h3 h4;unfold maxLen at m1 m2 m3 m4;obtain ⟨r,hr⟩:∃ r,hdrP p=r:=⟨_,rfl⟩;rw [hr];unfold hdrP at hr;have HB0:=Hi (zaa w (Obj.cells (pgC p ⟨B1,k1,B2,k2,B3,k3,B4,k4⟩) 35))
  have hcs:(64:Int)<(p.ins.length:Int)∨((p.ins.length:Int)≤64∧(16:Int)<(p.rls.length:Int))∨((p.ins.length:Int)≤64∧(p.rls.length:Int)≤16∧(64:Int)<(p.cells.length:Int)) ∨
      ((p.ins.length:Int)≤64∧(p.rls.length:Int)≤16∧(p.cells.length:Int)≤64∧(600:Int)<(p.code.length:Int))∨((p.ins.length:Int)≤64∧(p.rls.length:Int)≤16∧(p.cells.length:Int)≤64∧(p.code.length:Int)≤600):=by omega
  clear hpg
  rcases hcs with d0 | ⟨d0,d1⟩ | ⟨d0,d1,d2⟩ | ⟨d0,d1,d2,d3⟩ | ⟨d0,d1,d2,d3⟩
  case inr.inr.inr.inr =>
    rw [if_neg (by omega)] at hr;have HR:=Hi hr;have hn1:p.ins.length≤64:=by omega
    have hn2:p.rls.length≤16:=by omega
    clear hr;obtain ⟨i0,hi,hz0,hz1,hz2⟩:=info_parts zfK;go_enter Tryz.func82,Tryz.ntmps82;go_upto_region 3 with fail
    go_upto_region 4 with (at_make;refine wpList_make_own _ rfl _ _ 31 rfl (w.alloc (Obj.cells (pgC p ⟨B1,k1,B2,k2,B3,k3,B4,k4⟩) 35)).heap.size 9 i0 _ 1 Tryz.underlying31 hi hz0 hz1 .i64 .i64 _ (p.ins.length+p.rls.length) rfl rfl (by omega) (by rw [hz2];omega) (by unfold maxLen;omega) (Nat.le_refl _) ?_;intro w1 hown1 hg1;have HG1:=Hi hg1;have HO1:=Hi hown1;clear hg1 hown1)
    have hs0:(w.alloc (Obj.cells (pgC p ⟨B1,k1,B2,k2,B3,k3,B4,k4⟩) 35)).heap.size=w.heap.size+1:=World.size_alloc _ _;have hb1:Below (w.alloc (Obj.cells (pgC p ⟨B1,k1,B2,k2,B3,k3,B4,k4⟩) 35)).heap.size (w.alloc (Obj.cells (pgC p ⟨B1,k1,B2,k2,B3,k3,B4,k4⟩) 35)) w1:=(Below.refl _ _).grown HG1.out (Nat.le_refl _) (fun k hk=>by cases hk);have hown1:=HO1.out;rw [hs0] at hb1 hown1;have hbx0:(w.alloc (Obj.cells (pgC p ⟨B1,k1,B2,k2,B3,k3,B4,k4⟩) 35)).heap[w.heap.size]? = some (.cells (pgC p ⟨B1,k1,B2,k2,B3,k3,B4,k4⟩) 35 (0,0)):=heap_alloc_new w _;have hb0:=HB0.out;generalize w.alloc (Obj.cells (pgC p ⟨B1,k1,B2,k2,B3,k3,B4,k4⟩) 35)=W0 at *;have HBX:=Hi hbx0;have HBA:=Hi hb0;have HB1:=Hi hb1;have HO2:=Hi hown1;have HBOX:=Hi (fun (W:World) (h:Below (w.heap.size+1) W0 W)=>show W.heap[w.heap.size]? = some (.cells (pgC p ⟨B1,k1,B2,k2,B3,k3,B4,k4⟩) 35 (0,0)) from (h.block _ (by omega)).trans HBX.out);have HIN:=Hi (fun (W:World) (h:Below (w.heap.size+1) W0 W)=>HPG.out.r1.mono SgC.mono (fun _ q=>q) (zab (HBA.out.trans (h.mono (by omega))) fun _ q=>q));have HRL:=Hi (fun (W:World) (h:Below (w.heap.size+1) W0 W)=>HPG.out.r2.mono NmC.mono (fun _ q=>q) (zab (HBA.out.trans (h.mono (by omega))) fun _ q=>q));have HBW:=Hi (fun (W:World) (h:Below (w.heap.size+1) W0 W)=>HBA.out.trans (h.mono (by omega)));clear hb1 hown1 hbx0 hb0 HB0 HG1 HO1;have hbo1:=HBOX.out w1 HB1.out;have q0:w1.cell? ⟨w.heap.size,0,none⟩=some (.slice B1 p.ins.length k1):=by simp [World.cell?,hbo1]
    clear hbo1;go_wp2;go_loopg [3,46] (p.ins.length+1) (fun g v3 v46 wr=>HdA W0 (w.heap.size+1) p.ins g v3 v46 wr)
    case atStart=>exact ⟨0,Nat.zero_le _,by omega,rfl,by rw [List.take_zero];exact HO2.out,HB1.out⟩
    case round =>
      clear q0;obtain ⟨k,hk,hgk,rfl,hown,hbel⟩:=hrel;obtain ⟨A3,c3,rfl,hc3,hm3⟩:=zag hown;have hsz:=hbel.size;have hbo:=HBOX.out wr hbel;have q1:wr.cell? ⟨w.heap.size,1,none⟩=some (.slice B2 p.rls.length k2):=by simp [World.cell?,hbo]
      clear hbo
      by_cases hlt:k<p.ins.length
      case pos =>
        obtain ⟨b,o,s,hA,hSb,hx,hxl,hxw,y0,y1⟩:=sgAt (HIN.out wr hbel) hlt;subst hA;obtain ⟨nm,kd⟩:=s;dsimp only at hxl y0 y1
        have htk:(p.ins.take (k+1)).map (fun s=>nmV s.nm)=(p.ins.take k).map (fun s=>nmV s.nm)++[nmV nm]:=by
          rw [List.take_add_one,hx];simp
        have HTK:=Hi htk;have hbk:b<wr.heap.size:=by have:b<w.heap.size:=hSb;omega
        have how:=(hown.alloc (Obj.cells #[.string ⟨nm.toArray⟩,.int .i64 kd] 40)).alloc (Obj.cells #[.string ⟨nm.toArray⟩] 9);have hbw:=(hbel.alloc (by omega) (Obj.cells #[.string ⟨nm.toArray⟩,.int .i64 kd] 40)).alloc (by rw [World.size_alloc];omega) (Obj.cells #[.string ⟨nm.toArray⟩] 9);have hsr:=zaL (wr.alloc (Obj.cells #[.string ⟨nm.toArray⟩,.int .i64 kd] 40)) [nmV nm] 9 1 1 rfl;rw [World.size_alloc] at hsr;have HSR:=Hi hsr;have HOW:=Hi how;have HBQ:=Hi hbw;clear htk how hbw hsr hx hown hbel hSb;go_upto_region 8 with (at_builtin;refine za4 (o:=⟨some 54,_,_,_,_,_⟩) (w:=(wr.alloc (Obj.cells #[.string ⟨nm.toArray⟩,.int .i64 kd] 40)).alloc (Obj.cells #[.string ⟨nm.toArray⟩] 9)) _ _ 31 rfl rfl Tryz.underlying31 hi hz0 hz1 hz2 rfl (by decide) rfl HOW.out HBQ.out rfl HSR.out (by intro u hu;rw [List.mem_singleton.1 hu];rfl) (by unfold maxLen;omega) (by omega) (by simp only [World.size_alloc];omega) ?_;intro v6 w6 hown6 hb6 hs6;have HO6:=Hi hown6;have HB6:=Hi hb6;obtain ⟨A6,c6,hv6,-,-⟩:=zag hown6;clear hown6 hb6 hs6;subst hv6)
        go_wp2;go_roundg (p.ins.length-k)
        case measure=>omega
        case rel=>exact ⟨k+1,by omega,by omega,by go_num,by rw [HTK.out];exact HO6.out,HB6.out⟩
      obtain rfl:k=p.ins.length:=by omega
      rw [List.take_length] at hown;have HOW:=Hi hown;have HBL:=Hi hbel;have HSR:=Hi (rw_src (HRL.out wr hbel));have HNN:=Hi (show (p.ins.map (fun s=>nmV s.nm))++p.rls.map nmV=(zas p).map nmV by unfold zas;simp [Function.comp_def]);have HNL:=Hi (show (zas p).length=p.ins.length+p.rls.length by unfold zas;simp)
      have HNM:=Hi (show ∀ s∈zas p,s.length≤maxLen by
        intro s hs;unfold zas at hs
        rcases List.mem_append.1 hs with q | q
        · obtain ⟨y,hy,rfl⟩:=List.mem_map.1 q
          obtain ⟨cs,hc⟩:=zdi HPG.out.r1 y hy
          exact hc.2.1
        · obtain ⟨cs,hc⟩:=zdi HPG.out.r2 s q
          exact hc.2)
      clear hown hbel hlt HO2 HB1;generalize zas p=N at *;go_upto_region 10 with (at_builtin;refine za4 (o:=⟨some 59,_,_,_,_,_⟩) (w:=wr) _ _ 31 rfl rfl Tryz.underlying31 hi hz0 hz1 hz2 rfl (by decide) rfl HOW.out HBL.out rfl HSR.out (by intro u hu;obtain ⟨y,-,rfl⟩:=List.mem_map.1 hu;rfl) (by unfold maxLen;omega) (by omega) (by omega) ?_;intro v4 w4 hown4 hb4 hs4;have HO4:=Hi hown4;have HB4:=Hi hb4;obtain ⟨A4,c4,hv4,hc4,hm4⟩:=zag hown4;clear hown4 hb4;subst hv4)
      have hrw:=HO4.out;rw [HNN.out,← HNL.out] at hrw;rw [← HNL.out] at hc4 ⊢;have hnl80:N.length≤80:=by rw [HNL.out];omega
      have HNR:=Hi (zlA hrw rfl HNM.out);unfold maxLen at hm4;have HLT4:=HB4.out.size;clear hrw HOW HBL HSR HNN HO4 q1 HNL;go_wp2;go_loopg [62] (N.length+1) (fun g v wq=>HdB w4 N g v wq)
      case atStart=>exact ⟨0,Nat.zero_le _,by omega,rfl,by rw [List.drop_zero],rfl⟩
      case round =>
        rename World=>wq
        obtain ⟨j,hj,hgj,rfl,hall,rfl⟩:=hrel
        by_cases hlt:j<N.length
        case pos =>
          obtain ⟨b,o,s,hA,hSb,hx,hxl,y0⟩:=nmAt HNR.out hlt;subst hA
          have hget:N[j]=s:=by
            rw [List.getElem?_eq_getElem hlt] at hx;injection hx
          rw [List.drop_eq_getElem_cons hlt,hget,List.all_cons] at hall;have HN:=Hi (fun W=>zdS s W hxl);have hbk:b<wq.heap.size:=hSb;clear hx hget hSb;obtain ⟨nb,hnb⟩:∃ nb,zbj s=nb:=⟨_,rfl⟩;rw [hnb] at HN hall;clear hnb;have HALL:=Hi hall;clear hall
          cases nb with
          | false =>
            have HE:=Hi (show 7=r by rw [← HR.out,if_pos (by rw [← HALL.out];rfl)]);clear HR HALL;go_wp2_with fail
            refine (HN.out _).mono ?_
            rintro e w5 ⟨rfl,rfl⟩
            go_wp2;go_ret
            exact RetIB.mk HE.out (HBW.out _ HB4.out)
          | true =>
            go_wp2_with fail
            refine (HN.out _).mono ?_
            rintro e w5 ⟨rfl,rfl⟩
            go_wp2;go_roundg (N.length-j)
            case measure=>omega
            case rel=>exact ⟨j+1,by omega,by omega,by go_num,HALL.out,rfl⟩
        obtain rfl:j=N.length:=by omega
        rw [List.drop_length] at hall
        have HR2:=Hi (show (if zb7 [] N=true then (8:Int) else if p.ins.all zfN=false then 10 else 0)=r by
          have q:=HR.out;rw [if_neg (by rw [← hall];decide)] at q;exact q)
        clear HR hall hlt;have hmm := @run_makeMap Tryz.prog;go_upto_region 17 with fail
        clear hmm;have HMA:=Hi (MapS.made Tryz.prog 9 4 wq);have HBM:=Hi (zaa wq (.map #[] 0));go_wp2;go_loopg [73] (N.length+1) (fun g v wz=>HdC wq N g v wz)
        case atStart=>exact ⟨0,Nat.zero_le _,by omega,rfl,by rw [List.drop_zero,List.take_zero],by rw [List.take_zero,zjy];exact HMA.out,HBM.out⟩
        case round =>
          rename World=>wz
          clear HMA HBM;obtain ⟨i,hi',hgi,rfl,htw,hmap,hbz⟩:=hrel;have hmlt:=hmap.block
          by_cases hlt:i<N.length
          case pos =>
            obtain ⟨b,o,s,hA,hSb,hx,hxl,y0⟩:=nmAt (HNR.out.mono NmC.mono (fun _ q=>q) (zab hbz fun _ q=>q)) hlt;subst hA
            have hget:N[i]=s:=by
              rw [List.getElem?_eq_getElem hlt] at hx;injection hx
            rw [List.drop_eq_getElem_cons hlt,hget,zgJ] at htw
            have htk:N.take (i+1)=N.take i++[s]:=by
              rw [List.take_succ_eq_append_getElem hlt,hget]
            have hbk:b<wz.heap.size:=by have:b<wq.heap.size:=hSb;have:=hbz.size;omega
            have hsz:(⟨s.toArray⟩:ByteArray).size≤maxLen:=by simpa [ByteArray.size] using hxl
            have hlk:=hmap.look (t := 153) Tryz.underlying9 Tryz.underlying153 (zeroBo _) hsz false;rw [zjx] at hlk;simp only [Bool.false_eq_true,if_false] at hlk;clear hx hget hSb
            by_cases hin:s∈N.take i
            · rw [decide_eq_true hin] at hlk
              have HE:=Hi (show 8=r by rw [← HR2.out,if_pos (by rw [← htw];simp [hin])])
              have HBF:=Hi (HBW.out _ (HB4.out.trans (hbz.mono (by omega))))
              clear htw hmap hbz HR2 hin
              go_wp2
              go_ret
              exact RetIB.mk HE.out HBF.out
            · rw [decide_eq_false hin] at hlk
              rw [decide_eq_false hin,Bool.false_or,← htk] at htw
              obtain ⟨w',hup,hm',hg⟩:=hmap.store (t := 153) Tryz.underlying9 Tryz.underlying153 (by unfold maxLen;omega) hsz (plainElem_bool Tryz.underlying4 true)
              rw [← zh3,← htk] at hm'
              have HTW:=Hi htw
              have HM:=Hi hm'
              have HBF:=Hi (hbz.grown hg (by omega) (fun j hj=>by cases hj;exact Nat.le_refl _))
              clear htw hmap hbz hm' hg hin htk
              go_wp2
              go_roundg (N.length-i)
              case measure=>omega
              case rel=>exact ⟨i+1,by omega,by omega,by go_num,HTW.out,HM.out,HBF.out⟩
          obtain rfl:i=N.length:=by omega
          rw [List.drop_length] at htw
          have HR3:=Hi (show (if p.ins.all zfN=false then (10:Int) else 0)=r by
            have q:=HR2.out;rw [if_neg (by rw [← htw];exact Bool.false_ne_true)] at q;exact q)
          have hbz0:=HB4.out.trans (hbz.mono (by omega));have HBZ:=Hi hbz0;have hbo:=HBOX.out wz hbz0;have q0:wz.cell? ⟨w.heap.size,0,none⟩=some (.slice B1 p.ins.length k1):=by simp [World.cell?,hbo]
          clear htw hmap hbz HR2 hlt hbz0 hbo;go_wp2;go_loopg [86] (p.ins.length+1) (fun g v wx=>HdD wz p.ins g v wx)
          case atStart=>exact ⟨0,Nat.zero_le _,by omega,rfl,by rw [List.drop_zero],Below.refl _ _⟩
          case round =>
            rename World=>wx
            clear q0;obtain ⟨m,hm,hgm,rfl,hall,hbx⟩:=hrel;have hszx:=hbx.size;have hszz:=HBZ.out.size;have hbx0:=HBZ.out.trans (hbx.mono (by omega));have HBX2:=Hi (HBW.out _ hbx0)
            by_cases hlt:m<p.ins.length
            case pos =>
              obtain ⟨b,o,s,hA,hSb,hx,hxl,hxw,y0,y1⟩:=sgAt (HIN.out wx hbx0) hlt;subst hA;obtain ⟨nm,kd⟩:=s;dsimp only at hxl y0 y1
              have hget:p.ins[m]=⟨nm,kd⟩:=by
                rw [List.getElem?_eq_getElem hlt] at hx;injection hx
              rw [List.drop_eq_getElem_cons hlt,hget,List.all_cons] at hall;have hkb:zfN ⟨nm,kd⟩=decide (kd=1∨kd=2):=rfl;rw [hkb] at hall;have hbk:b<wx.heap.size:=by have:b<w.heap.size:=hSb;omega
              have HBF:=Hi (hbx.alloc (by omega) (Obj.cells #[.string ⟨nm.toArray⟩,.int .i64 kd] 40));have HBG:=Hi (HBX2.out.alloc (by omega) (Obj.cells #[.string ⟨nm.toArray⟩,.int .i64 kd] 40));have HALL:=Hi hall;clear hx hget hSb hkb hbx hbx0 hall
              rcases (show kd=1∨kd=2∨(kd≠1∧kd≠2) by omega) with rfl | rfl | ⟨e1,e2⟩
              case inr.inr =>
                have f1:(kd != 1)=true:=by simpa using e1
                have f2:(kd != 2)=true:=by simpa using e2
                have HE:=Hi (show 10=r by rw [← HR3.out,if_pos (by rw [← HALL.out];simp [e1,e2])]);clear e1 e2 HALL;go_wp2;go_ret
                exact RetIB.mk HE.out HBG.out
              all_goals
                have hall:=HALL.out;rw [decide_eq_true (by omega),Bool.true_and] at hall;have HALL2:=Hi hall;clear hall HALL;go_wp2;go_roundg (p.ins.length-m)
                case measure=>omega
                case rel=>exact ⟨m+1,by omega,by omega,by go_num,HALL2.out,HBF.out⟩
            obtain rfl:m=p.ins.length:=by omega
            rw [List.drop_length] at hall;have HE:=Hi (show 0=r by rw [← HR3.out,if_neg (by rw [← hall];decide)]);clear hall hlt hbx hbx0;go_wp2;go_ret
            exact RetIB.mk HE.out HBX2.out
  all_goals
    rw [if_pos (by omega)] at hr;have HR:=Hi hr.symm;clear hr;go_enter Tryz.func82,Tryz.ntmps82;go_wp2;go_ret
    exact RetIB.mk HR.out.symm HB0.out
end Go.Proofs.YtcikenlflcofbaaGreatDoor
