/-
  The reference's Check.
-/
import Derived.Test.YtcikenlflcofbaaGreatDoorRK
import Derived.Test.YtcikenlflcofbaaGreatDoorP1
set_option maxRecDepth 100000
set_option maxHeartbeats 8000000
namespace Go.Proofs.YtcikenlflcofbaaGreatDoor
open Go.RowKit
theorem zhT {w:World} {op n:Int} {nm:List UInt8} {A:Option Addr} {c:Nat} {ks:List Ex} (h:XI w op n nm A c ks) (hs:∀ d,inG d (.mk op n nm ks)→szG d (.mk op n nm ks)≤1000000000000000000) (A':Option Addr) (c':Nat) (env:List Sg) (hc':env.length≤c') (hm':c'≤maxLen) (hr':Rw SgC 2 w (fun b=>b<w.heap.size) A' env.length env) :
    Calls Tryz.prog 22 #[.agg #[.int .i64 op,.int .i64 n,.string ⟨nm.toArray⟩,.slice A ks.length c],.slice A' env.length c'] w (zig (zix (.mk op n nm ks) env) w):=by
  have hbx:=zaa w (Obj.cells #[.int .i64 op,.int .i64 n,.string ⟨nm.toArray⟩,.slice A ks.length c] 48);have hX:=XV.new w op n nm A ks.length c;have hrB:∀ W,Below w.heap.size w W→Rw SgC 2 W (fun b=>b<W.heap.size) A' env.length env:=fun W hb=>hr'.mono SgC.mono (fun _ q=>Nat.lt_of_lt_of_le q hb.size) (zab hb fun _ q=>q)
  have C1:=zga (h.below hbx) hs;have HX:=Hi hX;have HI:=Hi h;have HB:=Hi hbx;have HRB:=Hi hrB;have HP:=Hi (show zix (.mk op n nm ks) env=if zbn env=false∨zaR (.mk op n nm ks)=false then (0,1) else chkG env 16 (.mk op n nm ks) from rfl);have HVO:=Hi (fun q:zaR (.mk op n nm ks)=true=>zfm q);have HC':=Hi hc';have HM':=Hi hm';unfold maxLen at hm';clear hbx hX h hr' hrB hs;generalize zaR (.mk op n nm ks)=bv at *;have HC1:=Hi C1;clear C1;go_enter Tryz.func22,Tryz.ntmps22;go_wp2_with fail
  refine HC1.out.mono ?_
  rintro e w1 ⟨rfl,hb1⟩
  have HB1:=Hi (zac HB.out hb1 HB.out.size);have HX1:=Hi (HX.out.below hb1);clear hb1
  cases bv with
  | false =>
    have HF:=Hi (HP.out.trans (if_pos (.inr rfl)));go_wp2;refine bodyPost_ret (v := .tuple #[.int .i64 0,.int .i64 1]) (by simp [results,Tryz.results22,go_sem]) rfl ⟨?_,HB1.out⟩
    rw [HF.out]
  | true =>
  have C2:=zf7 A' c' env w1 HC'.out HM'.out (HRB.out w1 HB1.out);have HOK:=Hi (HVO.out rfl);clear HVO
  cases hg:zbn env with
  | false =>
    have HF:=Hi (HP.out.trans (if_pos (.inl hg)));rw [hg] at C2;have HC2:=Hi C2;clear C2 hg;go_wp2_with fail
    refine HC2.out.mono ?_
    rintro e w2 ⟨rfl,hb2⟩
    have HB2:=Hi (zac HB1.out hb2 HB1.out.size);go_wp2;refine bodyPost_ret (v := .tuple #[.int .i64 0,.int .i64 1]) (by simp [results,Tryz.results22,go_sem]) rfl ⟨?_,HB2.out⟩
    rw [HF.out]
  | true =>
    have HF:=Hi (HP.out.trans (if_neg (by rw [hg];simp)));rw [hg] at C2;have HC2:=Hi C2;clear C2 hg;go_wp2_with fail
    refine HC2.out.mono ?_
    rintro e w2 ⟨rfl,hb2⟩
    have HB2:=Hi (zac HB1.out hb2 HB1.out.size);obtain ⟨z0,z1,z2,z3,-,-,-,-⟩:=(HX1.out.below hb2).cells;have hI2:=HI.out.below HB2.out;have C3:=zf8 16 op n nm A c ks w2 A' c' env HOK.out hI2.hc hI2.hm hI2.hp hI2.rw HC'.out HM'.out (HRB.out w2 HB2.out);unfold exV at C3;have HC3:=Hi C3;clear C3 hI2 hb2;go_wp2_with fail
    refine HC3.out.mono ?_
    rintro e w3 ⟨rfl,hb3⟩
    have HB3:=Hi (zac HB2.out hb3 HB2.out.size);clear hb3;generalize chkG env 16 (.mk op n nm ks)=r at *;obtain ⟨r1,r2⟩:=r;dsimp only;go_wp2;refine bodyPost_ret (v := .tuple #[.int .i64 r1,.int .i64 r2]) (by simp [results,Tryz.results22,go_sem]) rfl ⟨?_,HB3.out⟩
    rw [HF.out]
end Go.Proofs.YtcikenlflcofbaaGreatDoor
namespace Go.Proofs.YtcikenlflcofbaaGreatDoor
structure RSt where
  i:Nat
  bad:Bool
  la:Int
def hitR (l:List Tok) (s:RSt) (w:List UInt8):Bool := !s.bad && (decide (s.i<l.length) && (decide ((tk l s.i).kind≠2) && (tk l s.i).text == w))
def zbO (s:RSt):RSt:=⟨s.i+1,s.bad,s.la⟩
def zdJ (s:RSt):RSt:=⟨s.i,true,s.la⟩
def zb2 (l:List Tok) (w:List UInt8) (s:RSt):RSt:=if hitR l s w then zbO s else zdJ s
def zbP {α β:Type} (r:Option (α × RSt)) (f:α→RSt→Option (β × RSt)):Option (β × RSt):=match r with
  | none=>none
  | some (x,s)=>f x s
def zdA (l:List Tok) (s:RSt):List (List UInt8)→Option (List UInt8)
  | []=>none
  | w::ws=>if hitR l s w then some w else zdA l s ws
def zgC (l:List Tok) (e:RSt→Option (Ex × RSt)) (ops:List (List UInt8)):Nat→Ex→RSt→Option (Ex × RSt)
  | 0,_,_=>none
  | g+1,x,s=>if s.bad then some (x,s) else match zdA l s ops with
    | none=>some (x,s)
    | some w=>zbP (e (zbO s)) fun y s2=>zgC l e ops g (.mk (zal w) 0 [] [x,y]) s2
def zde (l:List Tok) (e:RSt→Option (Ex × RSt)) (ops:List (List UInt8)) (g:Nat) (s:RSt):Option (Ex × RSt):=zbP (e s) fun x s2=>zgC l e ops g x s2
def zf3 (l:List Tok) (e:RSt→Option (Ex × RSt)):Nat→List Ex→RSt→Option (List Ex × RSt)
  | 0,acc,s=>some (acc,s)
  | k+1,acc,s=>zbP (e (if acc.isEmpty then s else zb2 l [44] s)) fun y s2=>zf3 l e k (acc++[y]) s2
def rNum (l:List Tok) (op:Int) (ks:List Ex) (s:RSt):Ex × RSt:=
  if s.bad=true∨l.length≤s.i∨(tk l s.i).kind≠2 then (.mk op 0 [] ks,zdJ s)
  else (.mk op (decV (tk l s.i).text) [] ks,zb2 l [41] ⟨s.i+1,s.bad,if 500<(decV (tk l s.i).text:Int)∧s.la<0 then (tk l s.i).pos else s.la⟩)
def zey (l:List Tok) (op:Int) (ks:List Ex) (s:RSt):Ex × RSt:=
  if zbU op then rNum l op ks (zb2 l [44] s) else (.mk op 0 [] ks,zb2 l [41] s)
def zkl (l:List Tok) (e:RSt→Option (Ex × RSt)) (op:Int) (s:RSt):Option (Ex × RSt):=
  zbP (zf3 l e (zav op).toNat [] (zb2 l [40] s)) fun ks s2=>some (zey l op ks s2)
def zji (l:List Tok) (e:RSt→Option (Ex × RSt)) (s:RSt):Option (Ex × RSt):=
  if s.bad=true∨l.length≤s.i then some (.zero,zdJ s)
  else if (tk l s.i).kind=2 then some (.mk 2 (decV (tk l s.i).text) [] [],zbO s)
  else if hitR l s [116, 114, 117, 101] then some (.mk 1 1 [] [],zbO s)
  else if hitR l s [102, 97, 108, 115, 101] then some (.mk 1 0 [] [],zbO s)
  else if hitR l s [40] then zbP (e (zbO s)) fun x s2=>some (x,zb2 l [41] s2)
  else if (tk l s.i).kind=1∧zaC (tk l s.i).text=false then some (.mk 3 0 (tk l s.i).text [],zbO s)
  else if (tk l s.i).kind=1∧za2.contains (tk l s.i).text=true then zkl l e (zal (tk l s.i).text) (zbO s)
  else some (.zero,zdJ s)
def rLev (l:List Tok):Nat→Lv→RSt→Option (Ex × RSt)
  | 0,_,_=>none
  | f+1,.expr,s=>zde l (rLev l f .xor) [[111, 114]] f s
  | f+1,.xor,s=>zde l (rLev l f .conj) [[120, 111, 114]] f s
  | f+1,.conj,s=>zde l (rLev l f .neg) [[97, 110, 100]] f s
  | f+1,.neg,s=>if hitR l s [110, 111, 116] then zbP (rLev l f .neg (zbO s)) fun x s2=>some (.mk 4 0 [] [x],s2) else rLev l f .rel s
  | f+1,.rel,s=>zbP (rLev l f .sum s) fun x s2=>match zdA l s2 [[60],[62],[61]] with
    | none=>some (x,s2)
    | some w=>zbP (rLev l f .sum (zbO s2)) fun y s3=>some (.mk (zal w) 0 [] [x,y],s3)
  | f+1,.sum,s=>zde l (rLev l f .prim) [[43],[45]] f s
  | f+1,.prim,s=>zji l (rLev l f .expr) s
theorem ze6 (l:List Tok) (f:Nat) (s:RSt):rLev l (f+1) .neg s=if hitR l s [110, 111, 116] then zbP (rLev l f .neg (zbO s)) fun x s2=>some (.mk 4 0 [] [x],s2) else rLev l f .rel s:=rfl
theorem zhc (l:List Tok) (f:Nat) (s:RSt):rLev l (f+1) .rel s=zbP (rLev l f .sum s) fun x s2=>match zdA l s2 [[60],[62],[61]] with
    | none=>some (x,s2)
    | some w=>zbP (rLev l f .sum (zbO s2)) fun y s3=>some (.mk (zal w) 0 [] [x,y],s3):=rfl
theorem zeU (t:List UInt8):(zan t).kind=0:=rfl
theorem zdM (t:List UInt8):(zan t).text=[]:=rfl
theorem zll (l:List Tok) (i:Nat) (la:Int) (w:List UInt8):hitR l ⟨i,true,la⟩ w=false:=rfl
theorem zg5 (l:List Tok) (i:Nat) (la:Int) (w:List UInt8):zb2 l w ⟨i,true,la⟩=⟨i,true,la⟩:=rfl
theorem zhs (l:List Tok) (i:Nat) (la:Int) (ops:List (List UInt8)):zdA l ⟨i,true,la⟩ ops=none:=by
  induction ops with
  | nil=>rfl
  | cons w ws ih=>unfold zdA;rw [zll,if_neg (by decide)];exact ih
def BadK (e:RSt→Option (Ex × RSt)):Prop:=∀ i la,∃ y,e ⟨i,true,la⟩=some (y,⟨i,true,la⟩)
theorem zej (l:List Tok) (e:RSt→Option (Ex × RSt)) (ops:List (List UInt8)) {g:Nat} (hg:0<g) (x:Ex) (i:Nat) (la:Int):zgC l e ops g x ⟨i,true,la⟩=some (x,⟨i,true,la⟩):=by
  obtain ⟨g,rfl⟩:∃ k,g=k+1:=⟨g-1,by omega⟩
  rfl
theorem zcI {l:List Tok} {e:RSt→Option (Ex × RSt)} (he:BadK e) (ops:List (List UInt8)) {g:Nat} (hg:0<g):BadK (zde l e ops g):=by
  intro i la;obtain ⟨y,hy⟩:=he i la;refine ⟨y,?_⟩
  unfold zde;rw [hy];exact zej l e ops hg y i la
theorem zdd {l:List Tok} {e:RSt→Option (Ex × RSt)} (he:BadK e):∀ k acc i la,∃ ks,zf3 l e k acc ⟨i,true,la⟩=some (ks,⟨i,true,la⟩)
  | 0,acc,_,_=>⟨acc,rfl⟩
  | k+1,acc,i,la=>by
    obtain ⟨y,hy⟩:=he i la;obtain ⟨ks,hk⟩:=zdd he k (acc++[y]) i la;refine ⟨ks,?_⟩
    unfold zf3;rw [zg5,ite_self,hy];exact hk
theorem zf4 (l:List Tok) (op:Int) (ks:List Ex) (i:Nat) (la:Int):∃ y,zey l op ks ⟨i,true,la⟩=(y,⟨i,true,la⟩):=by
  unfold zey
  split
  · exact ⟨.mk op 0 [] ks,by rw [zg5];unfold rNum;rw [if_pos (.inl rfl)];rfl⟩
  · exact ⟨.mk op 0 [] ks,rfl⟩
theorem zhb (l:List Tok):∀ f lv,zek lv≤f→BadK (rLev l f lv)
  | 0,lv,h=>by cases lv <;> simp [zek] at h
  | f+1,lv,h=>by
    have ih:=fun lv=>zhb l f lv
    cases lv <;> simp only [zek] at h ih
    · exact zcI (ih .xor (by simp only [];omega)) _ (by omega)
    · exact zcI (ih .conj (by simp only [];omega)) _ (by omega)
    · exact zcI (ih .neg (by simp only [];omega)) _ (by omega)
    · exact ih .rel (by simp only [];omega)
    · intro i la
      obtain ⟨y,hy⟩:=ih .sum (by simp only [];omega) i la
      refine ⟨y,?_⟩
      simp only [rLev]
      rw [hy]
      simp only [zbP]
      rw [zhs]
    · exact zcI (ih .prim (by simp only [];omega)) _ (by omega)
    · intro i la
      exact ⟨.zero,rfl⟩
theorem zeC {t:List UInt8} {l:List Tok} (hl:∀ k∈l,TokW t k) {i:Nat} (la:Int) (w:List UInt8) (hw:w.all zaq=false):hitR l ⟨i,false,la⟩ w=isT (l++[zan t]) i w:=by
  have hne:w≠[]:=by intro q;subst q;simp at hw
  unfold hitR isT
  rcases zge (l:=l) (e:=zan t) i with ⟨k,hk,hk2,hlt⟩ | ⟨h1,h2⟩ | ⟨h1,h2⟩
  · have e1:tk l i=k:=by unfold tk;rw [List.getD_eq_getElem?_getD,hk];rfl
    rw [hk2,e1]
    simp only [Bool.not_false,Bool.true_and,hlt,decide_true]
    by_cases h2:k.kind=2
    · have:=((hl k (List.mem_of_getElem? hk)).num h2).1
      have hx:(k.text == w)=false:=by
        rw [beq_eq_false_iff_ne]
        intro q
        rw [q,hw] at this
        cases this
      rw [hx,Bool.and_false]
    · simp [h2]
  · subst h1
    rw [h2]
    simp only [Nat.lt_irrefl,decide_false,Bool.false_and,Bool.and_false]
    symm
    rw [beq_eq_false_iff_ne]
    exact fun q=>hne q.symm
  · rw [h2]
    simp only [show ¬ i<l.length by omega,decide_false,Bool.false_and,Bool.and_false]
    symm
    rw [beq_eq_false_iff_ne]
    exact fun q=>hne q.symm
theorem zgN {t:List UInt8} {l:List Tok} (hl:∀ k∈l,TokW t k) {i:Nat} (la:Int):∀ (ops:List (List UInt8)),(∀ w∈ops,w.all zaq=false)→zdA l ⟨i,false,la⟩ ops=if ops.contains (tk (l++[zan t]) i).text then some (tk (l++[zan t]) i).text else none
  | [],_=>rfl
  | w::ws,h=>by
    have ih:=zgN hl (i:=i) la ws (fun x hx=>h x (List.mem_cons_of_mem _ hx));unfold zdA;rw [zeC hl la w (h w (List.mem_cons_self ..)),ih];unfold isT;rw [List.contains_cons]
    cases hq:((tk (l++[zan t]) i).text == w) with
    | true=>simp [eq_of_beq hq]
    | false=>simp
def OutR {α:Type} (L:List Tok) (N:Nat) (r:Except (Int × Int) (α × Nat × Int)) (y:α) (s:RSt):Prop:=match r with
  | .error (a,_)=>s.bad=true∧(tk L s.i).pos=a∧s.i≤N
  | .ok (x,j,la)=>y=x∧s=⟨j,false,la⟩∧j≤N
def zev {α:Type} (L:List Tok) (N:Nat) (p:Nat→Int→Res α) (e:RSt→Option (α × RSt)):Prop:=∀ i la r,i≤N→p i la=some r→∃ y s,e ⟨i,false,la⟩=some (y,s)∧OutR L N r y s
section
variable {t : List UInt8} {l : List Tok}
theorem zgH (hl:∀ k∈l,TokW t k) {i:Nat} (h:(tk (l++[zan t]) i).text≠[]):zaA (l++[zan t]) i=i+1∧i+1≤l.length:=by
  have h2:=(zcR hl).take h;simp at h2
  omega
theorem zep (hl:∀ k∈l,TokW t k) {i:Nat} (h:(tk (l++[zan t]) i).kind≠0):zaA (l++[zan t]) i=i+1∧i+1≤l.length:=by
  have h2:=zb0 (zcR hl) h;simp at h2
  omega
theorem zeo (hl:∀ k∈l,TokW t k) {i:Nat} {w:List UInt8} (hw:w.all zaq=false) (h:isT (l++[zan t]) i w=true):zaA (l++[zan t]) i=i+1∧i+1≤l.length:=
  zgH hl fun q=>by
    unfold isT at h;rw [q] at h;rw [← eq_of_beq h] at hw;simp at hw
theorem zb3 (hl:∀ k∈l,TokW t k) {i:Nat} {la:Int} {w:List UInt8} (hw:w.all zaq=false) (hi:i≤l.length) {α:Type} {f:Nat→Res α} {r:Except (Int × Int) (α × Nat × Int)} (h:zbd (l++[zan t]) w i f=some r) :
    (zb2 l w ⟨i,false,la⟩=⟨i+1,false,la⟩∧i+1≤l.length∧f (i+1)=some r)∨(zb2 l w ⟨i,false,la⟩=⟨i,true,la⟩∧∀ y:α,OutR (l++[zan t]) l.length r y ⟨i,true,la⟩):=by
  unfold zbd at h;unfold zb2;rw [zeC hl la w hw]
  split at h
  · rename_i hq
    obtain ⟨h1,h2⟩:=zeo hl hw hq
    rw [h1] at h
    exact .inl ⟨if_pos hq,h2,h⟩
  · rename_i hq
    refine .inr ⟨if_neg hq,fun y => ?_⟩
    obtain rfl:Except.error ((tk (l++[zan t]) i).pos,6)=r:=by injection h
    exact ⟨rfl,rfl,hi⟩
theorem zeH (hl:∀ k∈l,TokW t k) {p:Nat→Int→Res Ex} {e:RSt→Option (Ex × RSt)} (he:zev (l++[zan t]) l.length p e) (ops:List (List UInt8)) (ho:∀ w∈ops,w.all zaq=false) :
    ∀ g x i la r,i≤l.length→zcp (l++[zan t]) p ops g x i la=some r→∃ y s,zgC l e ops (g+8) x ⟨i,false,la⟩=some (y,s)∧OutR (l++[zan t]) l.length r y s
  | 0,_,_,_,_,_,h=>by cases h
  | g+1,x,i,la,r,hi,h=>by
    unfold zcp at h;rw [show g+1+8=(g+8)+1 by omega];unfold zgC;rw [if_neg Bool.false_ne_true,zgN hl la ops ho]
    split at h
    · rename_i hc
      rw [if_pos hc]
      obtain ⟨h1,h2⟩:=zgH hl (i:=i) (fun q=>by
        rw [q,List.contains_iff_mem] at hc
        exact absurd (ho _ hc) (by decide))
      rw [h1] at h
      show ∃ y s,zbP (e ⟨i+1,false,la⟩) _=some (y,s)∧_
      unfold Res.go at h
      split at h
      · cases h
      · rename_i q hq
        obtain rfl:Except.error q=r:=by injection h
        obtain ⟨y,s,hy,ho'⟩:=he _ _ _ h2 hq
        rw [hy]
        obtain ⟨a,er⟩:=q
        obtain ⟨si,sb,sl⟩:=s
        obtain rfl:sb=true:=ho'.1
        exact ⟨_,_,zej l e ops (by omega) _ _ _,ho'⟩
      · rename_i y j lb hq
        obtain ⟨y',s,hy,rfl,rfl,hj⟩:=he _ _ _ h2 hq
        rw [hy]
        exact zeH hl he ops ho g _ _ _ _ hj h
    · rename_i hc
      rw [if_neg hc]
      obtain rfl:Except.ok (x,i,la)=r:=by injection h
      exact ⟨x,_,rfl,rfl,rfl,hi⟩
theorem zce (hl:∀ k∈l,TokW t k) {p:Nat→Int→Res Ex} {e:RSt→Option (Ex × RSt)} (he:zev (l++[zan t]) l.length p e) (ops:List (List UInt8)) (ho:∀ w∈ops,w.all zaq=false) (g:Nat) :
    zev (l++[zan t]) l.length (zbD (l++[zan t]) p ops g) (zde l e ops (g+8)):=by
  intro i la r hi h;unfold zbD Res.go at h;unfold zde
  split at h
  · cases h
  · rename_i q hq
    obtain rfl:Except.error q=r:=by injection h
    obtain ⟨y,s,hy,ho'⟩:=he _ _ _ hi hq
    rw [hy]
    obtain ⟨a,er⟩:=q
    obtain ⟨si,sb,sl⟩:=s
    obtain rfl:sb=true:=ho'.1
    exact ⟨_,_,zej l e ops (by omega) _ _ _,ho'⟩
  · rename_i y j lb hq
    obtain ⟨y',s,hy,rfl,rfl,hj⟩:=he _ _ _ hi hq
    rw [hy]
    exact zeH hl he ops ho g _ _ _ _ hj h
theorem zdv (hl:∀ k∈l,TokW t k) {p:Nat→Int→Res Ex} {e:RSt→Option (Ex × RSt)} (he:zev (l++[zan t]) l.length p e) (hb:BadK e) :
    ∀ k acc,zev (l++[zan t]) l.length (zb4 (l++[zan t]) p k acc) (zf3 l e k acc)
  | 0,acc,i,la,r,hi,h=>by
    obtain rfl:Except.ok (acc,i,la)=r:=by injection h
    exact ⟨acc,_,rfl,rfl,rfl,hi⟩
  | k+1,acc,i,la,r,hi,h=>by
    have key:∀ i',i'≤l.length→(p i' la).go (fun y j la=>zb4 (l++[zan t]) p k (acc++[y]) j la)=some r→∃ y s,zbP (e ⟨i',false,la⟩) (fun y s2=>zf3 l e k (acc++[y]) s2)=some (y,s)∧OutR (l++[zan t]) l.length r y s:=by
      intro i' hi' h;unfold Res.go at h
      split at h
      · cases h
      · rename_i q hq
        obtain rfl:Except.error q=r:=by injection h
        obtain ⟨y,s,hy,ho'⟩:=he _ _ _ hi' hq
        rw [hy]
        obtain ⟨a,er⟩:=q
        obtain ⟨si,sb,sl⟩:=s
        obtain rfl:sb=true:=ho'.1
        obtain ⟨ks,hk⟩:=zdd hb k (acc++[y]) si sl
        exact ⟨ks,_,hk,ho'⟩
      · rename_i y j lb hq
        obtain ⟨y',s,hy,rfl,rfl,hj⟩:=he _ _ _ hi' hq
        rw [hy]
        exact zdv hl he hb k _ _ _ _ hj h
    unfold zb4 at h;unfold zf3
    split at h
    · rename_i hq
      rw [if_pos hq]
      exact key i hi h
    · rename_i hq
      rw [if_neg hq]
      rcases zb3 hl (la:=la) (by decide) hi h with ⟨h1,h2,h3⟩ | ⟨h1,h2⟩
      · rw [h1]
        exact key _ h2 h3
      · rw [h1]
        obtain ⟨y,hy⟩:=hb i la
        rw [hy]
        obtain ⟨ks,hk⟩:=zdd hb k (acc++[y]) i la
        exact ⟨ks,_,hk,h2 ks⟩
theorem zjh (hl:∀ k∈l,TokW t k) (op:Int) (ks:List Ex) (i:Nat) (la:Int) (r:Except (Int × Int) (Ex × Nat × Int)) (hi:i≤l.length)
    (h:(if (tk (l++[zan t]) i).kind=2 then zcT (l++[zan t]) op (tk (l++[zan t]) i).n ks (zaA (l++[zan t]) i) (if 500<(tk (l++[zan t]) i).n∧la<0 then (tk (l++[zan t]) i).pos else la) else zgd (l++[zan t]) i)=some r) :
    ∃ y s,rNum l op ks ⟨i,false,la⟩=(y,s)∧OutR (l++[zan t]) l.length r y s:=by
  unfold rNum
  rcases zge (l:=l) (e:=zan t) i with ⟨k,hk,hk2,hlt⟩ | ⟨h1,h2⟩ | ⟨h1,h2⟩
  · have e1:tk l i=k:=by unfold tk;rw [List.getD_eq_getElem?_getD,hk];rfl
    by_cases h2:k.kind=2
    · obtain ⟨t1,t2⟩:=zep hl (i:=i) (by rw [hk2,h2];decide)
      rw [hk2,if_pos h2,t1] at h
      have hn:=((hl k (List.mem_of_getElem? hk)).num h2).2.1
      rw [hn] at h
      rw [if_neg (by simp only [e1];rintro (q | q | q);exact absurd q (by decide);omega;exact q h2)]
      simp only [e1]
      rcases zb3 hl (la:=if 500<(decV k.text:Int)∧la<0 then k.pos else la) (by decide) t2 h with ⟨a1,a2,a3⟩ | ⟨a1,a2⟩
      · rw [a1]
        obtain rfl:=by injection a3
        exact ⟨_,_,rfl,rfl,rfl,a2⟩
      · rw [a1]
        exact ⟨_,_,rfl,a2 _⟩
    · rw [hk2,if_neg h2] at h
      obtain rfl:Except.error ((tk (l++[zan t]) i).pos,6)=r:=by injection h
      rw [if_pos (.inr (.inr (by rw [e1];exact h2)))]
      exact ⟨_,_,rfl,rfl,rfl,hi⟩
  · rw [h2,zeU,if_neg (by decide)] at h
    obtain rfl:Except.error ((tk (l++[zan t]) i).pos,6)=r:=by injection h
    rw [if_pos (.inr (.inl (show l.length≤i by omega)))]
    exact ⟨_,_,rfl,rfl,rfl,hi⟩
  · omega
theorem zhS (hl:∀ k∈l,TokW t k) {p:Nat→Int→Res Ex} {e:RSt→Option (Ex × RSt)} (he:zev (l++[zan t]) l.length p e) (hb:BadK e) (op:Int) :
    zev (l++[zan t]) l.length (zed (l++[zan t]) p op) (zkl l e op):=by
  intro i la r hi h;unfold zed at h;unfold zkl
  rcases zb3 hl (la:=la) (by decide) hi h with ⟨h1,h2,h3⟩ | ⟨h1,h2⟩
  · rw [h1]
    unfold Res.go at h3
    split at h3
    · cases h3
    · rename_i q hq
      obtain rfl:Except.error q=r:=by injection h3
      obtain ⟨ks,s,hy,ho'⟩:=zdv hl he hb _ _ _ _ _ h2 hq
      rw [hy]
      obtain ⟨a,er⟩:=q
      obtain ⟨si,sb,sl⟩:=s
      obtain rfl:sb=true:=ho'.1
      obtain ⟨y,hy2⟩:=zf4 l op ks si sl
      exact ⟨y,_,by show some (zey l op ks _)=_;rw [hy2],ho'⟩
    · rename_i ks j lb hq
      obtain ⟨ks',s,hy,rfl,rfl,hj⟩:=zdv hl he hb _ _ _ _ _ h2 hq
      rw [hy]
      simp only [zbP]
      unfold zey
      split at h3
      · rename_i ht
        rw [if_pos ht]
        rcases zb3 hl (la:=lb) (by decide) hj h3 with ⟨a1,a2,a3⟩ | ⟨a1,a2⟩
        · rw [a1]
          obtain ⟨y,s,e1,e2⟩:=zjh hl op ks' _ _ _ a2 a3
          exact ⟨y,s,by rw [e1],e2⟩
        · rw [a1]
          exact ⟨_,_,rfl,a2 _⟩
      · rename_i ht
        rw [if_neg ht]
        rcases zb3 hl (la:=lb) (by decide) hj h3 with ⟨a1,a2,a3⟩ | ⟨a1,a2⟩
        · rw [a1]
          obtain rfl:=by injection a3
          exact ⟨_,_,rfl,rfl,rfl,a2⟩
        · rw [a1]
          exact ⟨_,_,rfl,a2 _⟩
  · rw [h1]
    obtain ⟨ks,hk⟩:=zdd hb (zav op).toNat [] i la
    rw [hk]
    obtain ⟨y,hy2⟩:=zf4 l op ks i la
    exact ⟨y,_,by show some (zey l op ks _)=_;rw [hy2],h2 y⟩
theorem zgS {s:List UInt8} (h:za2.contains s=true):zaC s=true∧s.all zaq=false:=by
  rw [List.contains_iff_mem] at h;unfold za2 at h;simp only [List.mem_cons,List.not_mem_nil,or_false] at h
  rcases h with rfl | rfl | rfl | rfl | rfl | rfl | rfl | rfl | rfl | rfl <;> exact ⟨by decide,by decide⟩
theorem zhU (hl:∀ k∈l,TokW t k) {p:Nat→Int→Res Ex} {e:RSt→Option (Ex × RSt)} (he:zev (l++[zan t]) l.length p e) (hb:BadK e) :
    zev (l++[zan t]) l.length (zcN (l++[zan t]) p) (zji l e):=by
  intro i la r hi h;unfold zcN at h;unfold zji;simp only [zeC hl la [116, 114, 117, 101] (by decide),zeC hl la [102, 97, 108, 115, 101] (by decide),zeC hl la [40] (by decide)]
  rcases zge (l:=l) (e:=zan t) i with ⟨k,hk,hk2,hlt⟩ | ⟨h1,h2⟩ | ⟨h1,h2⟩
  case inr.inl =>
    rw [if_pos (.inr (by show l.length≤i;omega))];rw [if_neg (by unfold isT;rw [h2,zdM];decide),if_neg (by unfold isT;rw [h2,zdM];decide),if_neg (by unfold isT;rw [h2,zdM];decide),h2,zdM,zeU,if_neg (by decide),if_neg (by decide),if_neg (by rintro ⟨q,-⟩;exact absurd q (by decide))] at h;obtain rfl:Except.error ((tk (l++[zan t]) i).pos,6)=r:=by injection h
    exact ⟨_,_,rfl,rfl,rfl,hi⟩
  case inr.inr=>omega
  have e1:tk l i=k:=by unfold tk;rw [List.getD_eq_getElem?_getD,hk];rfl
  have hw:=hl k (List.mem_of_getElem? hk);rw [if_neg (by rintro (q | q);exact absurd q (by decide);exact absurd q (by show ¬ l.length≤i;omega))];simp only [e1]
  have hd:k.kind=2→∀ w:List UInt8,w.all zaq=false→isT (l++[zan t]) i w=false:=by
    intro h2 w hw2;unfold isT;rw [hk2,beq_eq_false_iff_ne];intro q;have:=(hw.num h2).1;rw [q,hw2] at this
    cases this
  by_cases h2:k.kind=2
  · rw [if_neg (by rw [hd h2 _ (by decide)];decide),if_neg (by rw [hd h2 _ (by decide)];decide),if_neg (by rw [hd h2 _ (by decide)];decide),hk2,if_neg (fun q=>by have:=(zgS q).2;rw [(hw.num h2).1] at this;cases this),if_pos h2] at h
    rw [if_pos h2]
    obtain ⟨t1,t2⟩:=zep hl (i:=i) (by rw [hk2,h2];decide)
    rw [t1,(hw.num h2).2.1] at h
    obtain rfl:=by injection h
    exact ⟨_,_,rfl,rfl,rfl,t2⟩
  rw [if_neg h2]
  by_cases q1:isT (l++[zan t]) i [40] = true
  · have n1:isT (l++[zan t]) i [116, 114, 117, 101] = false:=by unfold isT at q1 ⊢;rw [eq_of_beq q1];decide
    have n2:isT (l++[zan t]) i [102, 97, 108, 115, 101] = false:=by unfold isT at q1 ⊢;rw [eq_of_beq q1];decide
    rw [if_pos q1] at h
    rw [if_neg (by rw [n1];decide),if_neg (by rw [n2];decide),if_pos q1]
    obtain ⟨t1,t2⟩:=zeo hl (by decide) q1
    rw [t1] at h
    show ∃ y s,zbP (e ⟨i+1,false,la⟩) _=some (y,s)∧_
    unfold Res.go at h
    split at h
    · cases h
    · rename_i q hq
      obtain rfl:Except.error q=r:=by injection h
      obtain ⟨y,s,hy,ho'⟩:=he _ _ _ t2 hq
      rw [hy]
      obtain ⟨a,er⟩:=q
      obtain ⟨si,sb,sl⟩:=s
      obtain rfl:sb=true:=ho'.1
      exact ⟨_,_,rfl,ho'⟩
    · rename_i y j lb hq
      obtain ⟨y',s,hy,rfl,rfl,hj⟩:=he _ _ _ t2 hq
      rw [hy]
      simp only [zbP]
      rcases zb3 hl (la:=lb) (by decide) hj h with ⟨a1,a2,a3⟩ | ⟨a1,a2⟩
      · rw [a1]
        obtain rfl:=by injection a3
        exact ⟨_,_,rfl,rfl,rfl,a2⟩
      · rw [a1]
        exact ⟨_,_,rfl,a2 _⟩
  rw [if_neg q1] at h
  by_cases q2:isT (l++[zan t]) i [116, 114, 117, 101] = true
  · rw [if_pos q2] at h
    rw [if_pos q2]
    obtain ⟨t1,t2⟩:=zeo hl (by decide) q2
    rw [t1] at h
    obtain rfl:=by injection h
    exact ⟨_,_,rfl,rfl,rfl,t2⟩
  rw [if_neg q2] at h;rw [if_neg q2]
  by_cases q3:isT (l++[zan t]) i [102, 97, 108, 115, 101] = true
  · rw [if_pos q3] at h
    rw [if_pos q3]
    obtain ⟨t1,t2⟩:=zeo hl (by decide) q3
    rw [t1] at h
    obtain rfl:=by injection h
    exact ⟨_,_,rfl,rfl,rfl,t2⟩
  rw [if_neg q3] at h;rw [if_neg q3,if_neg q1];rw [hk2] at h;obtain ⟨t1,t2⟩:=zep hl (i:=i) (by rw [hk2];rcases hw.kind with q | q | q <;> rw [q] <;> decide);rw [t1] at h
  by_cases q4:za2.contains k.text=true
  · have hr:=(zgS q4).1
    rw [if_pos q4] at h
    rw [if_neg (by rintro ⟨-,q⟩;rw [hr] at q;cases q)]
    have hk1:k.kind=1:=by
      rcases hw.kind with q | q | q
      · exact q
      · exact absurd q h2
      · exfalso
        obtain ⟨c,hc,hs⟩:=(hw.sym q).1
        rw [hc] at q4
        rw [List.contains_iff_mem] at q4
        unfold za2 at q4
        simp only [List.mem_cons,List.not_mem_nil,List.cons.injEq,reduceCtorEq,and_false,or_self] at q4
    rw [if_pos ⟨hk1,q4⟩]
    exact zhS hl he hb _ _ _ _ t2 h
  rw [if_neg q4,if_neg h2] at h
  by_cases q5:k.kind=1∧zaC k.text=false
  · rw [if_pos q5] at h
    rw [if_pos q5]
    obtain rfl:=by injection h
    exact ⟨_,_,rfl,rfl,rfl,t2⟩
  · rw [if_neg q5] at h
    rw [if_neg q5,if_neg (fun q=>q4 q.2)]
    obtain rfl:Except.error ((tk (l++[zan t]) i).pos,6)=r:=by injection h
    exact ⟨_,_,rfl,rfl,rfl,hi⟩
theorem zei (hl:∀ k∈l,TokW t k):∀ f lv,zev (l++[zan t]) l.length (pLev (l++[zan t]) f lv) (rLev l (f+8) lv)
  | 0,_=>fun _ _ _ _ h=>by cases h
  | f+1,lv=>by
    have ih:=fun lv=>zei hl f lv
    have hb:=fun lv (h:zek lv≤f+8)=>zhb l (f+8) lv h
    rw [show f+1+8=(f+8)+1 by omega]
    cases lv
    · exact zce hl (ih .xor) _ (by decide) f
    · exact zce hl (ih .conj) _ (by decide) f
    · exact zce hl (ih .neg) _ (by decide) f
    · intro i la r hi h
      simp only [pLev] at h
      rw [ze6]
      rw [zeC hl la [110, 111, 116] (by decide)]
      split at h
      · rename_i hq
        rw [if_pos hq]
        obtain ⟨t1,t2⟩:=zeo hl (by decide) hq
        rw [t1] at h
        show ∃ y s,zbP (rLev l (f+8) .neg ⟨i+1,false,la⟩) _=some (y,s)∧_
        unfold Res.go at h
        split at h
        · cases h
        · rename_i q hq
          obtain rfl:Except.error q=r:=by injection h
          obtain ⟨y,s,hy,ho'⟩:=ih .neg _ _ _ t2 hq
          rw [hy]
          exact ⟨_,_,rfl,ho'⟩
        · rename_i y j lb hq
          obtain ⟨y',s,hy,rfl,rfl,hj⟩:=ih .neg _ _ _ t2 hq
          rw [hy]
          obtain rfl:=by injection h
          exact ⟨_,_,rfl,rfl,rfl,hj⟩
      · rename_i hq
        rw [if_neg hq]
        exact ih .rel _ _ _ hi h
    · intro i la r hi h
      simp only [pLev] at h
      rw [zhc]
      unfold Res.go at h
      split at h
      · cases h
      · rename_i q hq
        obtain rfl:Except.error q=r:=by injection h
        obtain ⟨y,s,hy,ho'⟩:=ih .sum _ _ _ hi hq
        rw [hy]
        obtain ⟨a,er⟩:=q
        obtain ⟨si,sb,sl⟩:=s
        obtain rfl:sb=true:=ho'.1
        simp only [zbP]
        rw [zhs]
        exact ⟨_,_,rfl,ho'⟩
      · rename_i y j lb hq
        obtain ⟨y',s,hy,rfl,rfl,hj⟩:=ih .sum _ _ _ hi hq
        rw [hy]
        simp only [zbP]
        rw [zgN hl lb _ (by decide)]
        dsimp only at h
        split at h
        · rename_i hc
          rw [if_pos hc]
          obtain ⟨t1,t2⟩:=zgH hl (i:=j) (fun q=>by rw [q] at hc;exact absurd hc (by decide))
          rw [t1] at h
          show ∃ y s,zbP (rLev l (f+8) .sum ⟨j+1,false,lb⟩) _=some (y,s)∧_
          split at h
          · cases h
          · rename_i q hq
            obtain rfl:Except.error q=r:=by injection h
            obtain ⟨y2,s2,hy2,ho2⟩:=ih .sum _ _ _ t2 hq
            rw [hy2]
            exact ⟨_,_,rfl,ho2⟩
          · rename_i y2 j2 lb2 hq
            obtain ⟨y3,s2,hy2,rfl,rfl,hj2⟩:=ih .sum _ _ _ t2 hq
            rw [hy2]
            obtain rfl:=by injection h
            exact ⟨_,_,rfl,rfl,rfl,hj2⟩
        · rename_i hc
          rw [if_neg hc]
          obtain rfl:=by injection h
          exact ⟨_,_,rfl,rfl,rfl,hj⟩
    · exact zce hl (ih .prim) _ (by decide) f
    · exact zhU hl (ih .expr) (hb .expr (by simp [zek])) 
end
def endR (t:List UInt8) (l:List Tok) (x:Ex) (s:RSt):Ex × Int × Int:=
  if s.bad=true∨s.i<l.length then (if s.i<l.length then (.zero,(tk l s.i).pos,6) else (.zero,t.length,6))
  else if 0≤s.la then (.zero,s.la,2) else if zaR x then (x,0,0) else (.zero,0,17)
theorem zhO {t:List UInt8} (ht:¬ 120<t.length) {l:List Tok} (hl:za9 t = .ok l):∃ y s,rLev l 1008 .expr ⟨0,false,-1⟩=some (y,s)∧s.i≤l.length∧endR t l y s=zaw t:=by
  obtain ⟨hw,hlen⟩:=zbu hl;have hp:=zdb t;unfold zbw at hp;rw [if_neg ht,hl] at hp;simp only at hp
  cases hr:pLev (l++[zan t]) 1000 .expr 0 (-1) with
  | none=>rw [hr] at hp;cases hp
  | some r =>
    obtain ⟨y,s,hy,ho⟩:=zei hw 1000 .expr 0 (-1) r (Nat.zero_le _) hr;rw [hr] at hp;refine ⟨y,s,hy,?_⟩
    rcases r with ⟨a,er⟩ | ⟨x,j,la⟩
    · have h6:=zee _ _ _ _ _ _ _ hr
      subst h6
      obtain ⟨h1,h2,h3⟩:=ho
      refine ⟨h3,?_⟩
      injection hp with hp
      rw [← hp]
      unfold endR
      rw [if_pos (.inl h1)]
      rcases zge (l:=l) (e:=zan t) s.i with ⟨k,hk,hk2,hlt⟩ | ⟨q1,q2⟩ | ⟨q1,q2⟩
      · rw [if_pos hlt,← h2,hk2]
        have e1:tk l s.i=k:=by unfold tk;rw [List.getD_eq_getElem?_getD,hk];rfl
        rw [e1]
      · rw [if_neg (by omega),← h2,q2];rfl
      · omega
    · obtain ⟨rfl,rfl,hj⟩:=ho
      refine ⟨hj,?_⟩
      injection hp with hp
      rw [← hp]
      unfold endR endP
      simp only
      rcases zge (l:=l) (e:=zan t) j with ⟨k,hk,hk2,hlt⟩ | ⟨q1,q2⟩ | ⟨q1,q2⟩
      · have e1:tk l j=k:=by unfold tk;rw [List.getD_eq_getElem?_getD,hk];rfl
        have hne:k.kind≠0:=by rcases (hw k (List.mem_of_getElem? hk)).kind with q | q | q <;> rw [q] <;> decide
        rw [if_pos (.inr hlt),if_pos hlt,hk2,if_pos hne,e1]
      · rw [if_neg (by rintro (q | q);cases q;omega),q2,zeU,if_neg (c:=(0:Int)≠0) (by decide)]
      · omega
end Go.Proofs.YtcikenlflcofbaaGreatDoor
