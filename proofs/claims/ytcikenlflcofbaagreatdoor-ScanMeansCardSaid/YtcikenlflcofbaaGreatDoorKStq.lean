/-
  scan.Run: successive scans.
-/
import Derived.Test.YtcikenlflcofbaaGreatDoorKRunP
import Derived.Laws.CopyOwn
import Derived.Deep.DeepCutAuto
set_option maxRecDepth 100000
set_option maxHeartbeats 8000000
namespace Go.Proofs.YtcikenlflcofbaaGreatDoor
open Go.RowKit
def LsC (w:World) (S:Nat→Prop) (cs:List Value) (x:List Int):Prop:=∃ A c,cs=[.slice A x.length c]∧x.length≤c∧c≤maxLen∧Rw IaC 1 w S A x.length x
theorem LsC.mono:zdH LsC:=fun _ _ _ _ _ _ hS hk ⟨A,c,e,h1,h2,h3⟩=>⟨A,c,e,h1,h2,h3.mono IaC.mono hS hk⟩
theorem lsAt {w:World} {S:Nat→Prop} {A:Option Addr} {n:Nat} {l:List (List Int)} (h:Rw LsC 1 w S A n l) {k:Nat} (hk:k<n) :
    ∃ b o x A' c',A=some ⟨b,o,none⟩∧S b∧l[k]? = some x∧x.length≤c'∧c'≤maxLen∧Rw IaC 1 w S A' x.length x∧w.cell? ⟨b,o+k,none⟩=some (.slice A' x.length c'):=by
  obtain ⟨b,o,cs,x,e,hb,hx,_,⟨A',c',rfl,h1,h2,h3⟩,hat⟩:=h.at_ hk;exact ⟨b,o,x,A',c',e,hb,hx,h1,h2,h3,by simpa using hat 0 _ rfl⟩
def hdV (n:Nat) (g:Nat):Value := .slice (some ⟨g,0,none⟩) n n
structure LoW (w:World) (base:Nat) (v:Value) (n:Nat) (hs:List Nat) (l:List (List Int)):Prop where
  len:hs.length=l.length
  row:w.ownsRow base 38 1 v l.length (hs.map (hdV n))
  rows:∀ (i g:Nat) (x:List Int),hs[i]? = some g→l[i]? = some x→VaW w base g n n x∧v.ownBlock≠some g∧base≤g
theorem LoW.keep {w w':World} {base n:Nat} {v:Value} {hs:List Nat} {l:List (List Int)} (h:LoW w base v n hs l) (hk:∀ b,base≤b→b<w.heap.size→w'.heap[b]? = w.heap[b]?):LoW w' base v n hs l:=
  ⟨h.len,zam h.row (fun g e hg=>hk g (h.row.lt g e).1 hg),fun i g x h1 h2=>by
    obtain ⟨a,b,c⟩:=h.rows i g x h1 h2;exact ⟨a.keep (hk g c a.lt),b,c⟩⟩
theorem LoW.push {w w6:World} {base n:Nat} {v v6:Value} {hs:List Nat} {l:List (List Int)} (h:LoW w base v n hs l) {g:Nat} {x:List Int} (hx:VaW w base g n n x) (hgv:v.ownBlock≠some g) (hgb:base≤g) (o:Obj)
    (hg:(w.alloc o).grownBy w6 v.ownBlock) (ho:w6.ownsRow base 38 1 v6 (l.length+1) (hs.map (hdV n)++[hdV n g])) (hv:v6.ownBlock=v.ownBlock∨v6.ownBlock=some (w.alloc o).heap.size):LoW w6 base v6 n (hs++[g]) (l++[x]):=by
  have key:∀ b,b<w.heap.size→v.ownBlock≠some b→w6.heap[b]? = w.heap[b]? ∧ v6.ownBlock≠some b:=fun b hb hn=>by
    refine ⟨(hg.block b (by rw [World.size_alloc];omega) (fun q=>hn q.symm)).trans (Lib.alloc_old w o b hb),?_⟩
    rcases hv with e | e
    · rw [e];exact hn
    · rw [e,World.size_alloc];intro q;injection q;omega
  refine ⟨by simp [h.len],by simpa using ho,fun i g' x' h1 h2 => ?_⟩
  rcases Nat.lt_or_ge i hs.length with hi | hi
  · rw [List.getElem?_append_left hi] at h1
    rw [List.getElem?_append_left (by rw [← h.len];exact hi)] at h2
    obtain ⟨a,b,c⟩:=h.rows i g' x' h1 h2
    have k:=key g' a.lt b
    exact ⟨a.keep k.1,k.2,c⟩
  · rw [List.getElem?_append_right hi] at h1
    rw [List.getElem?_append_right (by rw [← h.len];exact hi),← h.len] at h2
    have h0:i-hs.length=0:=by
      have:=(List.getElem?_eq_some_iff.1 h1).1
      simpa using this
    rw [h0] at h1 h2
    cases h1
    cases h2
    have k:=key g hx.lt hgv
    exact ⟨hx.keep k.1,k.2,hgb⟩
theorem LoW.rw {w:World} {base n c:Nat} {A:Option Addr} {hs:List Nat} {l:List (List Int)} {S:Nat→Prop} (h:LoW w base (.slice A l.length c) n hs l) (hn:n≤100000) (hS:∀ b,base≤b→b<w.heap.size→S b):Rw LsC 1 w S A l.length l:=by
  refine ⟨rfl,fun hpos => ?_⟩
  obtain ⟨g,cap,hv,hlo,hlt⟩:=h.row.form hpos;have hA:A=some ⟨g,0,none⟩:=by injection hv
  have hc:c=cap:=by injection hv
  subst hA;subst hc;refine ⟨g,0,rfl,hS g hlo hlt,fun k x hx => ?_⟩
  have hkl:=(List.getElem?_eq_some_iff.1 hx).1;have hhk:hs[k]? = some (hs[k]'(by rw [h.len];exact hkl)):=List.getElem?_eq_getElem _;obtain ⟨a,b,cc⟩:=h.rows k _ x hhk hx;refine ⟨[hdV n (hs[k]'(by rw [h.len];exact hkl))],rfl,⟨some ⟨hs[k]'(by rw [h.len];exact hkl),0,none⟩,n,?_,?_,by unfold maxLen;omega,?_⟩,?_⟩
  · rw [a.len];rfl
  · rw [a.len];exact Nat.le_refl _
  · have hr:=a.row
    rw [a.len]
    refine Rw.of_own (f:=fun z=>[Value.int .i64 z]) (base:=base) (e := 3) (c:=n) (by rw [← List.map_eq_flatMap];exact hr) a.len (fun _ _=>rfl) (fun _ _=>rfl) hS
  · intro j u hu
    cases j with
    | zero =>
      simp at hu
      subst hu
      have:=h.row.cellAt k (by omega)
      rw [List.getElem?_map,hhk] at this
      simpa using this
    | succ j=>simp at hu
theorem zkc {w:World} {base g n:Nat} {e:TypeId} {xs:List Value} (h:w.ownsRow base e 1 (.slice (some ⟨g,0,none⟩) n n) n xs):w.heap[g]? = some (.cells xs.toArray e (0,0)):=by
  rcases h.2 with ⟨h1,_⟩ | ⟨g',cap,cur,h1,_,h3,_,_,h6,h7⟩
  · cases h1
  · injection h1 with q1 q2 q3
    injection q1 with q1
    injection q1 with q1
    subst q1
    subst q3
    rw [h3,← h7,List.take_of_length_le (by rw [Array.length_toList];omega)]
theorem zh4 {α:Type} {L cs:List α} (h:cs.length=L.length):splice L 0 cs=cs:=by
  unfold splice;rw [List.take_zero,List.nil_append,List.drop_eq_nil_of_le (by omega),List.append_nil]
def RetRun (p:Pg) (xs:List (List Int)) (w:World) (e:Ending) (w':World):Prop:=
  ∃ A c,e = .returned (.tuple #[.slice A (runS p xs).1.length c,.int .i64 (runS p xs).2])∧(runS p xs).1.length≤c∧c≤maxLen∧Rw LsC 1 w' (New w w') A (runS p xs).1.length (runS p xs).1∧Below w.heap.size w w'
theorem RetRun.none {p:Pg} {xs:List (List Int)} {w w':World} {er:Int} (h:runS p xs=([],er)) (hb:Below w.heap.size w w'):RetRun p xs w (.returned (.tuple #[.slice Option.none 0 0,.int .i64 er])) w':=by
  refine ⟨Option.none,0,by rw [h];rfl,by rw [h];exact Nat.le_refl _,Nat.zero_le _,?_,hb⟩
  rw [h];exact ⟨rfl,fun q=>absurd q (Nat.lt_irrefl 0)⟩
def RuL (W:World) (base gv gc b0:Nat) (p:Pg) (xs:List (List Int)) (R:List (List Int) × Int) (g:Nat) (v8 v25:Value) (wr:World):Prop:=
  ∃ (k:Nat) (m:Mm) (hs:List Nat) (l:List (List Int)),k≤xs.length∧xs.length-k<g∧v25 = .int .i64 (k:Int)∧runL p (xs.drop k) m l=R∧l.length=k∧MemW wr b0 gv p.rls.length gc p.cells.length p m.vals m.cells∧zjJ p m∧LoW wr base v8 p.rls.length hs l ∧
    KB (fun b=>b=gv∨b=gc∨base≤b) W wr
theorem zkW:(Tryz.prog.info? 38).map (fun i=>(i.zero,i.size,i.bytes))=some (some (.slice Option.none 0 0),1,24):=by kernel_rfl
theorem zih {w:World} {p:Pg} {l:Pl} {A:Option Addr} {c:Nat} {xs:List (List Int)} (hpg:PgI w (Old w) p l) (hx:Rw LsC 1 w (Old w) A xs.length xs) (hxn:xs.length≤100000) :
    Calls Tryz.prog 10 #[pgV p l,.slice A xs.length c] w (RetRun p xs w):=by
  obtain ⟨B1,k1,B2,k2,B3,k3,B4,k4⟩:=l;obtain ⟨R,hR⟩:∃ R,runS p xs=R:=⟨_,rfl⟩;have hb1:=zaa w (Obj.cells (pgC p ⟨B1,k1,B2,k2,B3,k3,B4,k4⟩) 35);have HC:=Hi (zk8 (hpg.below hb1));have HX1:=Hi (heap_alloc_new w (Obj.cells (pgC p ⟨B1,k1,B2,k2,B3,k3,B4,k4⟩) 35));have HPG:=Hi hpg;have HXR:=Hi hx;have HB1:=Hi hb1;have HRR:=Hi hR;have hs1:=World.size_alloc w (Obj.cells (pgC p ⟨B1,k1,B2,k2,B3,k3,B4,k4⟩) 35);have HS1:=Hi hs1;clear hb1 hpg hx hR hs1;go_enter Tryz.func10,Tryz.ntmps10;go_wp2_with fail
  refine HC.out.mono ?_
  rintro e w1 ⟨hb2,⟨hv,rfl⟩ | ⟨hv,gv,gc,rfl,hgv,hgc,hmw⟩⟩
  · have HE:=Hi (show runS p xs=([],1) by unfold runS;rw [if_pos hv])
    have HB2:=Hi (zac HB1.out hb2 HB1.out.size)
    have HB3:=Hi (HB2.out.alloc HB2.out.size (Obj.cells #[.slice Option.none 0 0,.slice Option.none 0 0] 53))
    clear hv hb2
    go_wp2
    go_ret2
    exact RetRun.none HE.out HB3.out
  have HV:=Hi hv;obtain ⟨-,hr16,hc64,-⟩:=zgk hv;have hs1:=HS1.out;have hb2s:=hb2.size;have hgvl:=hmw.va.lt;have hgcl:=hmw.ce.lt;have hgne:=hmw.ne;have hbp:=(hb2.block w.heap.size (by omega)).trans HX1.out;have hb3:=zaa w1 (Obj.cells #[.slice (some ⟨gv,0,none⟩) p.rls.length p.rls.length,.slice (some ⟨gc,0,none⟩) p.cells.length p.cells.length] 53);have hbm:=heap_alloc_new w1 (Obj.cells #[.slice (some ⟨gv,0,none⟩) p.rls.length p.rls.length,.slice (some ⟨gc,0,none⟩) p.cells.length p.cells.length] 53);have hbp2:=(hb3.block w.heap.size (by omega)).trans hbp;have hmw2:=hmw.keep (hb3.block gv hgvl) (hb3.block gc hgcl);have hs2:=World.size_alloc w1 (Obj.cells #[.slice (some ⟨gv,0,none⟩) p.rls.length p.rls.length,.slice (some ⟨gc,0,none⟩) p.cells.length p.cells.length] 53);have hw2:=(zac HB1.out hb2 HB1.out.size).trans (hb3.mono (by omega));obtain ⟨ti,hti,hz0,hz1,hz2⟩:=info_parts zkW;obtain ⟨tn,htn,hn0,hn1,hn2⟩:=info_parts zdD;go_upto_region 4 with fail
  generalize w1.alloc (Obj.cells #[.slice (some ⟨gv,0,none⟩) p.rls.length p.rls.length,.slice (some ⟨gc,0,none⟩) p.cells.length p.cells.length] 53)=W2 at *;have HBP2:=Hi hbp2;have HBM:=Hi hbm;have HMW2:=Hi hmw2;have HW2:=Hi hw2;have HS2:=Hi hs2;clear hbp hb3 hbm hbp2 hmw2 hw2 hs2 hmw hs1 hb2 hv;go_upto_region 5 with (at_make;refine wpList_make_own _ rfl _ _ 24 rfl W2.heap.size 38 ti _ 1 Tryz.underlying24 hti hz0 hz1 .i64 .i64 _ xs.length rfl rfl rfl (by rw [hz2];omega) (by unfold maxLen;omega) (Nat.le_refl _) ?_;intro w3 hown3 hg3;have HO3:=Hi hown3;have HG3:=Hi hg3;clear hown3 hg3)
  have hb3:Below W2.heap.size W2 w3:=(Below.refl _ _).grown HG3.out (Nat.le_refl _) (fun k hk=>by cases hk);have hs2:=HS2.out;have hs1:=HS1.out;have hw0:w.heap.size<w1.heap.size:=by omega
  have hgv2:gv<W2.heap.size:=by omega
  have hgc2:gc<W2.heap.size:=by omega
  have hgv0:w.heap.size<gv:=by omega
  have hgc0:w.heap.size<gc:=by omega
  have hm2:w1.heap.size<W2.heap.size:=by omega
  have hm3:w.heap.size<W2.heap.size:=by omega
  have hmg:w1.heap.size≠gv∧w1.heap.size≠gc:=by omega
  have hb3s:=hb3.size;have HB3:=Hi hb3;have HMW3:=Hi (HMW2.out.keep (hb3.block gv hgv2) (hb3.block gc hgc2));have HBX:=Hi (fun (W:World) (h:KB (fun b=>b=gv∨b=gc∨W2.heap.size≤b) w3 W)=>And.intro ((h.block w.heap.size (by omega) (by omega)).trans ((HB3.out.block _ hm3).trans HBP2.out)) ((h.block w1.heap.size (by omega) (by omega)).trans ((HB3.out.block _ hm2).trans HBM.out)))
  have HKO:=Hi (fun (W:World) (h:KB (fun b=>b=gv∨b=gc∨W2.heap.size≤b) w3 W)=>show KeepOn (Old w) w W from fun b hb=>by
    have hb':b<w.heap.size:=hb;exact (h.block b (by omega) (by omega)).trans ((HB3.out.block b (by omega)).trans (HW2.out.block b hb')))
  have HLO:Hid (LoW w3 W2.heap.size (.slice (some ⟨W2.heap.size,0,none⟩) 0 xs.length) p.rls.length [] []):=Hi ⟨rfl,HO3.out,fun i g x h=>by simp at h⟩;have HMO:=Hi (zk1 HV.out);have HRL:=Hi (show runL p xs (newP p) []=R by rw [← HRR.out];unfold runS;rw [if_neg (by rw [HV.out];decide)]);have HEND:=Hi (fun (W:World) (h:KB (fun b=>b=gv∨b=gc∨W2.heap.size≤b) w3 W)=>show Below w.heap.size w W from ⟨h.os.trans (HB3.out.os.trans HW2.out.os),h.tape.trans (HB3.out.tape.trans HW2.out.tape),h.output.trans (HB3.out.output.trans HW2.out.output),by have:=HW2.out.size;have:=h.size;omega,HKO.out W h⟩);clear hs2 hs1 hb3 HO3 HG3;go_wp2;go_loopg [8,25] (xs.length+1) (fun g v8 v25 wr=>RuL w3 W2.heap.size gv gc (w.alloc (Obj.cells (pgC p ⟨B1,k1,B2,k2,B3,k3,B4,k4⟩) 35)).heap.size p xs R g v8 v25 wr)
  case atStart=>exact ⟨0,newP p,[],[],Nat.zero_le _,by omega,rfl,by rw [List.drop_zero];exact HRL.out,rfl,HMW3.out,HMO.out,HLO.out,KB.refl _ _⟩
  case round =>
    clear HLO HMW3 HRL HMO;obtain ⟨k,m,hs,l,hk,hgk,rfl,hru,hll,hmm,hmo,hlo,hkb⟩:=hrel;have hsz:=hkb.size;have HLL:=Hi hll;have hl8:l.length≤100000:=by omega
    clear hll;obtain ⟨A8,c8,rfl,hc8,hm8⟩:=zag hlo.row
    by_cases hlt:k<xs.length
    case neg =>
      obtain rfl:k=xs.length:=by omega
      rw [List.drop_length] at hru;have hRe:R=(l,0):=hru.symm
      have HRES:Hid (RetRun p xs w (.returned (.tuple #[.slice A8 l.length c8,.int .i64 0])) wr):=by
        refine Hi ⟨A8,c8,?_,?_,hm8,?_,HEND.out wr hkb⟩
        · rw [HRR.out,hRe]
        · rw [HRR.out,hRe];exact hc8
        · rw [HRR.out,hRe]
          exact hlo.rw (by omega) (fun b h1 h2=>⟨by omega,h2⟩)
      clear hru hmm hmo hlo hkb hRe hlt;go_wp2
      go_ret2
      exact HRES.out
    obtain ⟨b,o,x,Ax,cx,hA,hSb,hx,hxc,hxm,hxr,y0⟩:=lsAt (HXR.out.mono LsC.mono (fun _ q=>q) (HKO.out wr hkb)) hlt;subst hA
    have hget:xs[k]=x:=by
      rw [List.getElem?_eq_getElem hlt] at hx;injection hx
    rw [List.drop_eq_getElem_cons hlt,hget,zdh] at hru;obtain ⟨hbx,hmx⟩:=HBX.out wr hkb;have hkw:KeepOn (Old w) w wr:=HKO.out wr hkb;have hwl:w.heap.size<wr.heap.size:=by omega
    have hpw:PgI wr (Old w) p ⟨B1,k1,B2,k2,B3,k3,B4,k4⟩:=HPG.out.mono (fun _ q=>q) hkw;have HRD:=Hi (zf6 (ci:=cx) hpw (fun b q=>by have q':b<w.heap.size:=q;omega) hxr);have q0:wr.cell? ⟨w.heap.size,0,none⟩=some (.slice B1 p.ins.length k1):=by simp [World.cell?,hbx]
    have q1:wr.cell? ⟨w.heap.size,1,none⟩=some (.slice B2 p.rls.length k2):=by simp [World.cell?,hbx]
    have q2:wr.cell? ⟨w.heap.size,2,none⟩=some (.slice B3 p.cells.length k3):=by simp [World.cell?,hbx]
    have q3:wr.cell? ⟨w.heap.size,3,none⟩=some (.slice B4 p.code.length k4):=by simp [World.cell?,hbx]
    have hbk:b<wr.heap.size:=by have q':b<w.heap.size:=hSb;omega
    obtain ⟨rb,hrb⟩:∃ rb,zdf p x=rb:=⟨_,rfl⟩;rw [hrb] at HRD hru
    cases rb with
    | false =>
      have HE:=Hi (show runS p xs=([],1) by rw [HRR.out,← hru,if_pos rfl]);have HEB:=Hi (HEND.out wr hkb);clear hru hmm hmo hlo hkb hx hget hbx hmx hkw hpw hxr hrb hSb;go_wp2_with fail
      refine HRD.out.mono ?_
      rintro e w5 ⟨rfl,hb5⟩
      have HB5:=Hi (zac HEB.out hb5 HEB.out.size);clear hb5;go_wp2
      go_ret2
      exact RetRun.none HE.out HB5.out
    | true =>
    rw [if_neg (by decide)] at hru;have HRU:=Hi hru;have hio:=zhd hrb;have HMO2:=Hi (zlV HV.out hio hmo);have hmwr:=hmm
    have HEX:=Hi (fun (w5:World) (hb5:Below wr.heap.size wr w5)=>zjX (w:=w5) (p:=p) (l:=⟨B1,k1,B2,k2,B3,k3,B4,k4⟩) (gv:=gv) (gc:=gc) (Ai:=Ax) (ci:=cx) (inp:=x)
      (hpw.mono (fun b q=>by
        have q':b<w.heap.size:=q;have:=hb5.size;omega) (zab hb5 fun b q=>by
        have q':b<w.heap.size:=q;omega))
      (hmm.keep (hb5.block gv hmm.va.lt) (hb5.block gc hmm.ce.lt))
      (hxr.mono IaC.mono (fun b q=>by
        have q':b<w.heap.size:=q;have:=hb5.size;omega) (zab hb5 fun b q=>by
        have q':b<w.heap.size:=q;omega)) HV.out hio hmo)
    have HKB:=Hi hkb;have HLO:=Hi hlo;have HBX2:=Hi hbx;have HMX2:=Hi hmx;generalize zem p m x=m' at *;clear hru hmm hmo hlo hkb hx hget hkw hpw hxr hrb hSb hio hmwr hbx hmx;go_wp2_with fail
    refine HRD.out.mono ?_
    rintro e w5 ⟨rfl,hb5⟩
    have hbx5:=(hb5.block w.heap.size hwl).trans HBX2.out;have hmx5:=(hb5.block w1.heap.size (by omega)).trans HMX2.out;have s0:w5.cell? ⟨w.heap.size,0,none⟩=some (.slice B1 p.ins.length k1):=by simp [World.cell?,hbx5]
    have s1:w5.cell? ⟨w.heap.size,1,none⟩=some (.slice B2 p.rls.length k2):=by simp [World.cell?,hbx5]
    have s2:w5.cell? ⟨w.heap.size,2,none⟩=some (.slice B3 p.cells.length k3):=by simp [World.cell?,hbx5]
    have s3:w5.cell? ⟨w.heap.size,3,none⟩=some (.slice B4 p.code.length k4):=by simp [World.cell?,hbx5]
    have u0:w5.cell? ⟨w1.heap.size,0,none⟩=some (.slice (some ⟨gv,0,none⟩) p.rls.length p.rls.length):=by simp [World.cell?,hmx5]
    have u1:w5.cell? ⟨w1.heap.size,1,none⟩=some (.slice (some ⟨gc,0,none⟩) p.cells.length p.cells.length):=by simp [World.cell?,hmx5]
    have HB5:=Hi hb5;have HMX5:=Hi hmx5;have hs5:=hb5.size;clear q0 q1 q2 q3 y0 hb5 hbx5 hmx5;go_wp2_with fail
    refine (HEX.out w5 HB5.out).mono ?_
    rintro e w6 ⟨rfl,hmm6,hkb6⟩
    have hs6:=hkb6.size;have hmx6:=(hkb6.block w1.heap.size (by omega) (by omega)).trans HMX5.out;have v0:w6.cell? ⟨w1.heap.size,0,none⟩=some (.slice (some ⟨gv,0,none⟩) p.rls.length p.rls.length):=by simp [World.cell?,hmx6]
    have HMM6:=Hi hmm6;have HKB6:=Hi hkb6;have HMX6:=Hi hmx6;have hgv6:=hmm6.va.lt;clear s0 s1 s2 s3 u0 u1 hmm6 hkb6 hmx6;go_upto_region 12 with (at_make;refine wpList_make_full _ rfl _ _ 38 rfl w6.heap.size 3 tn _ 1 Tryz.underlying38 htn hn0 hn1 .i64 .i64 _ _ p.rls.length rfl rfl rfl rfl (by rw [hn2];omega) (by unfold maxLen;omega) (Nat.le_refl _) ?_;intro w7 hown7 hg7;have HO7:=Hi hown7;have HG7:=Hi hg7;clear hown7 hg7)
    have hown7:=HO7.out;rw [Nat.mul_one,zc6] at hown7;have hb7:Below w6.heap.size w6 w7:=(Below.refl _ _).grown HG7.out (Nat.le_refl _) (fun k hk=>by cases hk);have hh7:=zkc hown7;have hl7:=(hown7.lt w6.heap.size rfl).2;have hva7:=HMM6.out.va.keep (hb7.block gv hgv6);have hmx7:=(hb7.block w1.heap.size (by omega)).trans HMX6.out;have x0:w7.cell? ⟨w1.heap.size,0,none⟩=some (.slice (some ⟨gv,0,none⟩) p.rls.length p.rls.length):=by simp [World.cell?,hmx7]
    have HH7:=Hi hh7;have HB7:=Hi hb7;have HVA7:=Hi hva7;have hszi:(Tryz.prog.info? 3).map (·.size)=some 1:=by rw [htn];simp [hn1]
    have hvl:m'.vals.length=p.rls.length:=HMM6.out.va.len;have HVL:=Hi hvl;clear hown7 hb7 hh7 hva7 hmx7 v0 HO7 HG7 hvl;go_upto_region 13 with (refine wpList_copy_splice (o:=⟨some 44,_,_,_,_,_⟩) rfl _ _ 38 38 rfl 3 Tryz.underlying38 hszi _ _ _ _ _ _ rfl rfl w6.heap.size 0 _ 3 HH7.out (m'.vals.map (Value.int .i64)) (by rw [List.length_map,HVL.out];exact (Nat.min_self _).symm) (fun h=>⟨rfl,⟨gv,0,none⟩,rfl,HVA7.out.row.cells (g:=gv) rfl⟩) (by simp [HVL.out]) (by intro u hu;obtain ⟨z,-,rfl⟩:=List.mem_map.1 hu;rfl) w6.heap.size w6 HB7.out (Nat.le_refl _) ?_;intro w8 hh8 hb8;have HB8:=Hi hb8;clear hb8)
    have hva8:VaW w8 W2.heap.size w6.heap.size p.rls.length p.rls.length m'.vals:=zkG hh8.out (by rw [List.toList_toArray];exact zh4 (by simp [HVL.out])) HVL.out (by omega) (by omega);have hs8:=HB8.out.size;have hmm8:=HMM6.out.keep (HB8.out.block gv hgv6) (HB8.out.block gc HMM6.out.ce.lt);have hlo8:=HLO.out.keep (w':=w8) (fun z h1 h2=>(HB8.out.block z (by omega)).trans ((HKB6.out.block z (by omega) (by omega)).trans (HB5.out.block z h2)));have hkb8:KB (fun b=>b=gv∨b=gc∨W2.heap.size≤b) w3 w8:=((HKB.out.trans (KB.of_below HB5.out)).trans (HKB6.out.mono fun b _ q=>by rcases q with q | q;exact .inl q;exact .inr (.inl q))).trans (KB.of_below HB8.out);have how:=hlo8.row;have hlt8:∀ g,(Value.slice A8 l.length c8).ownBlock=some g→W2.heap.size≤g∧g<wr.heap.size:=HLO.out.row.lt;have HOW:=Hi (how.alloc (Obj.cells #[.slice (some ⟨w6.heap.size,0,none⟩) p.rls.length p.rls.length] 38));have HSR:=Hi (zaL w8 [.slice (some ⟨w6.heap.size,0,none⟩) p.rls.length p.rls.length] 38 1 1 rfl);have HM1:=Hi (show l.length+1≤maxLen by unfold maxLen;omega);have HM2:=Hi (show (l.length+1)*24≤140737488355328 by omega);have HBS:=Hi (show W2.heap.size≤(w8.alloc (Obj.cells #[.slice (some ⟨w6.heap.size,0,none⟩) p.rls.length p.rls.length] 38)).heap.size by rw [World.size_alloc];omega);have HVA8:=Hi hva8;have HMM8:=Hi hmm8;have HLO8:=Hi hlo8;have HKB8:=Hi hkb8;have HLT8:=Hi hlt8;have hgv8:=hmm8.va.lt;have hgc8:=hmm8.ce.lt;clear hva8 hmm8 hlo8 hkb8 how hlt8 x0 hh8;go_upto_region 14 with (at_builtin;refine zaj (o:=⟨some 48,_,_,_,_,_⟩) (w:=w8.alloc (Obj.cells #[.slice (some ⟨w6.heap.size,0,none⟩) p.rls.length p.rls.length] 38)) _ _ 24 rfl rfl Tryz.underlying24 hti hz0 hz1 hz2 rfl (by decide) rfl HOW.out rfl HSR.out (by intro u hu;rw [List.mem_singleton.1 hu];rfl) HM1.out HM2.out HBS.out ?_;intro v9 w9 hown9 hg9 hv9;have HO9:=Hi hown9;have HG9:=Hi hg9;have HV9:=Hi hv9;obtain ⟨A9,c9,hv9e,-,-⟩:=zag hown9;clear hown9 hg9 hv9;subst hv9e)
    have hpush:=HLO8.out.push HVA8.out (fun q=>by have:=(HLT8.out _ q).2;omega) (by omega) _ HG9.out HO9.out HV9.out
    have hmm9:MemW w9 (w.alloc (Obj.cells (pgC p ⟨B1,k1,B2,k2,B3,k3,B4,k4⟩) 35)).heap.size gv p.rls.length gc p.cells.length p m'.vals m'.cells:=
      HMM8.out.keep ((HG9.out.block gv (by rw [World.size_alloc];omega) (fun q=>by have:=(HLT8.out gv q.symm).1;omega)).trans (Lib.alloc_old w8 _ gv hgv8)) ((HG9.out.block gc (by rw [World.size_alloc];omega) (fun q=>by have:=(HLT8.out gc q.symm).1;omega)).trans (Lib.alloc_old w8 _ gc hgc8))
    have hkb9:=(HKB8.out.trans (KB.of_below (zaa w8 _))).trans (KB.of_grown (S:=fun b=>b=gv∨b=gc∨W2.heap.size≤b) HG9.out (fun b _ q => .inr (.inr (HLT8.out b q).1)));have HPU:=Hi hpush;have HMM9:=Hi hmm9;have HKB9:=Hi hkb9;clear hpush hmm9 hkb9;go_wp2;go_roundg (xs.length-k)
    case measure=>omega
    case rel =>
      have hll:=HLL.out;refine ⟨k+1,m',hs++[w6.heap.size],l++[m'.vals],by omega,by omega,by go_num,HRU.out,by simp [hll],HMM9.out,HMO2.out,?_,HKB9.out⟩
      have:=HPU.out;rw [hll] at this ⊢;exact this
end Go.Proofs.YtcikenlflcofbaaGreatDoor
namespace Go.Proofs.YtcikenlflcofbaaGreatDoor
open Go.RowKit
structure Ml where
  A1:Option Addr
  c1:Nat
  A2:Option Addr
  c2:Nat
abbrev mmC (m:Mm) (l:Ml):Array Value := #[.slice l.A1 m.vals.length l.c1,.slice l.A2 m.cells.length l.c2]
end Go.Proofs.YtcikenlflcofbaaGreatDoor
namespace Go.Proofs.YtcikenlflcofbaaGreatDoor
open Go.RowKit
structure StB (W:World) (n:Nat) (p:Pg) (l:Pl) (m:Mm) (ml:Ml):Prop where
  b0:W.heap[n]? = some (.cells (pgC p l) 35 (0,0))
  b1:W.heap[n+1]? = some (.cells (mmC m ml) 53 (0,0))
  b2:W.heap[n+2]? = some (.cells #[.slice Option.none 0 0,.slice Option.none 0 0] 53 (0,0))
theorem zlY (w:World) (p:Pg) (l:Pl) (m:Mm) (ml:Ml):StB (((w.alloc (Obj.cells (pgC p l) 35)).alloc (Obj.cells (mmC m ml) 53)).alloc (Obj.cells #[.slice Option.none 0 0,.slice Option.none 0 0] 53)) w.heap.size p l m ml:=by
  have h0:=heap_alloc_new w (Obj.cells (pgC p l) 35);have h1:=heap_alloc_new (w.alloc (Obj.cells (pgC p l) 35)) (Obj.cells (mmC m ml) 53);have h2:=heap_alloc_new ((w.alloc (Obj.cells (pgC p l) 35)).alloc (Obj.cells (mmC m ml) 53)) (Obj.cells #[.slice Option.none 0 0,.slice Option.none 0 0] 53);simp only [World.size_alloc] at h1 h2;exact ⟨(Lib.alloc_old _ _ _ (by simp only [World.size_alloc];omega)).trans ((Lib.alloc_old _ _ _ (by simp only [World.size_alloc];omega)).trans h0),(Lib.alloc_old _ _ _ (by simp only [World.size_alloc];omega)).trans h1,h2⟩
theorem zaE {w W:World} {n:Nat} (h:Below w.heap.size w W) (hn:w.heap.size≤n) (x y:Value):Below w.heap.size w ((W.setCell ⟨n,0,none⟩ x).setCell ⟨n,1,none⟩ y):=
  zba (zba h hn (Nat.le_refl _) 0 x) hn (Nat.le_refl _) 1 y
theorem zar {w1:World} {bb:Nat} {a b:Value} {t:TypeId} (h:w1.heap[bb]? = some (.cells #[a,b] t (0,0))) (x y:Value) :
    ((w1.setCell ⟨bb,0,none⟩ x).setCell ⟨bb,1,none⟩ y).cell? ⟨bb,0,none⟩=some x∧((w1.setCell ⟨bb,0,none⟩ x).setCell ⟨bb,1,none⟩ y).cell? ⟨bb,1,none⟩=some y ∧
    ((w1.setCell ⟨bb,0,none⟩ x).setCell ⟨bb,1,none⟩ y).heap[bb]? = some (.cells #[x,y] t (0,0)):=by
  have h1:=heap_setCell_same w1 bb 0 _ _ x h;have h2:=heap_setCell_same (w1.setCell ⟨bb,0,none⟩ x) bb 1 _ _ y h1;exact ⟨by simp [World.cell?,h2],by simp [World.cell?,h2],by rw [h2];rfl⟩
theorem zid (w1:World) (bb:Nat) (x y:Value):KB (fun b=>b=bb) w1 ((w1.setCell ⟨bb,0,none⟩ x).setCell ⟨bb,1,none⟩ y):=
  (KB.of_grown (zaf w1 bb 0 x) (fun b _ q=>by injection q with q;exact q.symm)).trans (KB.of_grown (zaf (w1.setCell ⟨bb,0,none⟩ x) bb 1 y) (fun b _ q=>by injection q with q;exact q.symm))
theorem zic (W:World) (o1 o2 o3:Obj):((((W.alloc o1).alloc o2).alloc o3).drew).heap[W.heap.size]? = some o1∧((((W.alloc o1).alloc o2).alloc o3).drew).heap[W.heap.size+1]? = some o2∧((((W.alloc o1).alloc o2).alloc o3).drew).heap[W.heap.size+1+1]? = some o3∧Below W.heap.size W ((((W.alloc o1).alloc o2).alloc o3).drew):=by
  have h1:=heap_alloc_new W o1;have h2:=heap_alloc_new (W.alloc o1) o2;have h3:=heap_alloc_new ((W.alloc o1).alloc o2) o3;simp only [World.size_alloc] at h2 h3;refine ⟨(Lib.alloc_old _ _ _ (by simp only [World.size_alloc];omega)).trans ((Lib.alloc_old _ _ _ (by simp only [World.size_alloc];omega)).trans h1),(Lib.alloc_old _ _ _ (by simp only [World.size_alloc];omega)).trans h2,h3,?_⟩
  have b1:=zaa W o1;have b2:=zac b1 (zaa (W.alloc o1) o2) b1.size;exact zad (zac b2 (zaa ((W.alloc o1).alloc o2) o3) b2.size)
end Go.Proofs.YtcikenlflcofbaaGreatDoor
