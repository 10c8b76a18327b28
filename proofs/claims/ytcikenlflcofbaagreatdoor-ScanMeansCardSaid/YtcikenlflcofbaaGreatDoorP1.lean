/-
  Logic equations in plain words: expressions, their validity, their text, the tokens of a text and its parsing, as functions on lists. No program is named here.
-/
import Derived.Lib.ItoaNum
namespace Go.Proofs.YtcikenlflcofbaaGreatDoor
inductive Ex where
  | mk (op n:Int) (name:List UInt8) (kids:List Ex)
structure Tok where
  kind:Int
  text:List UInt8
  pos:Int
  n:Int
def zaH (c:UInt8):Bool:=(97≤c && c≤122) || (65≤c && c≤90)
def zaq (c:UInt8):Bool:=48≤c && c≤57
def zbh (c:UInt8):Bool:=zaH c || zaq c || c == 95
def zbr:List (List UInt8):=[[110, 111, 116],[97, 110, 100],[111, 114],[120, 111, 114],[60],[62],[61],[43],[45],[109, 105, 110],[109, 97, 120],[97, 98, 115],[105, 102],[114, 105, 115, 101],[102, 97, 108, 108],[100, 101, 108, 97, 121],[104, 111, 108, 100],[108, 97, 116, 99, 104],[99, 111, 117, 110, 116]]
def zaJ:List (List UInt8):=[[116, 114, 117, 101],[102, 97, 108, 115, 101],[110, 111, 116],[97, 110, 100],[111, 114],[120, 111, 114],[109, 105, 110],[109, 97, 120],[97, 98, 115],[105, 102],[114, 105, 115, 101],[102, 97, 108, 108],[100, 101, 108, 97, 121],[104, 111, 108, 100],[108, 97, 116, 99, 104],[99, 111, 117, 110, 116]]
def za2:List (List UInt8):=[[109, 105, 110],[109, 97, 120],[97, 98, 115],[105, 102],[114, 105, 115, 101],[102, 97, 108, 108],[100, 101, 108, 97, 121],[104, 111, 108, 100],[108, 97, 116, 99, 104],[99, 111, 117, 110, 116]]
def zaC (s:List UInt8):Bool:=zaJ.contains s
def zcO (s:List UInt8):Bool:=match s with
  | []=>false
  | c::r=>decide (r.length<12) && zaH c && r.all zbh
def zbj (s:List UInt8):Bool:=zcO s && !zaC s
def zgM (op:Int):List UInt8:=if 4≤op∧op≤22 then zbr.getD (op-4).toNat [] else []
def zdE (s:List UInt8):List (List UInt8)→Int→Int
  | [],_=>0
  | x::l,k=>if x == s then k else zdE s l (k+1)
def zal (s:List UInt8):Int:=zdE s zbr 4
def zav (op:Int):Int:=
  if op=1∨op=2∨op=3 then 0
  else if op=4∨op=15∨op=17∨op=18∨op=19∨op=20 then 1
  else if op=16 then 3
  else if 1≤op∧op≤22 then 2 else -1
def zbU (op:Int):Bool:=decide (op=19∨op=20)
def zcM (op:Int):Int:=if op=1 then 1 else if op=2 then 32767 else if op=19∨op=20 then 500 else 0
def za7 (op n:Int) (nm:List UInt8) (k:Nat):Bool:=
  decide ((k:Int)=zav op) && (if op=3 then decide (n=0) && zbj nm else nm.isEmpty && decide (0≤n∧n≤zcM op))
def vL (f:Nat→Ex→Option Nat):Nat→List Ex→Option Nat
  | left,[]=>some left
  | left,k::ks=>match f left k with
    | none=>none
    | some l=>vL f l ks
def vG:Nat→Nat→Ex→Option Nat
  | 0,_,_=>none
  | d+1,left,.mk op n nm ks=>if left=0∨za7 op n nm ks.length=false then none else vL (vG d) (left-1) ks
def zaR (x:Ex):Bool:=(vG 16 60 x).isSome
def runB (p:UInt8→Bool) (t:List UInt8) (i:Nat):Nat:=i+((t.drop i).takeWhile p).length
def decV (l:List UInt8):Nat:=l.foldl (fun a c=>10*a+(c.toNat-48)) 0
def symB (c:UInt8):Bool := [40, 41, 44, 60, 62, 61, 43, 45].contains c
def cutB (t:List UInt8) (i j:Nat):List UInt8:=(t.take j).drop i
def zgI (t:List UInt8) (i:Nat) (c:UInt8):Except (Int × Int) (Option Tok × Nat):=
  if c == 32 then .ok (none,i+1)
  else if zaH c then
    if 12<runB zbh t (i+1)-i then .error (i,7) else .ok (some ⟨1,cutB t i (runB zbh t (i+1)),i,0⟩,runB zbh t (i+1))
  else if zaq c then
    if 32767<decV (cutB t i (runB zaq t (i+1)))∨(1<(cutB t i (runB zaq t (i+1))).length∧c=48) then .error (i,2)
    else .ok (some ⟨2,cutB t i (runB zaq t (i+1)),i,decV (cutB t i (runB zaq t (i+1)))⟩,runB zaq t (i+1))
  else if symB c then .ok (some ⟨3,[c],i,0⟩,i+1) else .error (i,5)
def zbX (t:List UInt8):Nat→Nat→List Tok→Except (Int × Int) (List Tok)
  | 0,_,acc => .ok acc
  | f+1,i,acc=>match t[i]? with
    | none => .ok acc
    | some c=>match zgI t i c with
      | .error e => .error e
      | .ok (none,j)=>zbX t f j acc
      | .ok (some k,j)=>zbX t f j (acc++[k])
def zan (t:List UInt8):Tok:=⟨0,[],t.length,0⟩
def za9 (t:List UInt8):Except (Int × Int) (List Tok):=zbX t (t.length+1) 0 []
abbrev Res (α:Type):=Option (Except (Int × Int) (α × Nat × Int))
def tk (L:List Tok) (i:Nat):Tok:=L.getD i ⟨0,[],0,0⟩
def zaA (L:List Tok) (i:Nat):Nat:=if (tk L i).kind=0 then i else i+1
def isT (L:List Tok) (i:Nat) (s:List UInt8):Bool:=(tk L i).text == s
def zgd {α:Type} (L:List Tok) (i:Nat):Res α:=some (.error ((tk L i).pos,6))
def Res.go {α β:Type} (r:Res α) (f:α→Nat→Int→Res β):Res β:=match r with
  | none=>none
  | some (.error e)=>some (.error e)
  | some (.ok (x,i,late))=>f x i late
def zbd {α:Type} (L:List Tok) (s:List UInt8) (i:Nat) (f:Nat→Res α):Res α:=if isT L i s then f (zaA L i) else zgd L i
def zcp (L:List Tok) (e:Nat→Int→Res Ex) (ops:List (List UInt8)):Nat→Ex→Nat→Int→Res Ex
  | 0,_,_,_=>none
  | g+1,x,i,late=>if ops.contains (tk L i).text then (e (zaA L i) late).go fun y j la=>zcp L e ops g (.mk (zal (tk L i).text) 0 [] [x,y]) j la
    else some (.ok (x,i,late))
def zbD (L:List Tok) (e:Nat→Int→Res Ex) (ops:List (List UInt8)) (g:Nat) (i:Nat) (late:Int):Res Ex:=(e i late).go fun x j la=>zcp L e ops g x j la
def zb4 (L:List Tok) (e:Nat→Int→Res Ex):Nat→List Ex→Nat→Int→Res (List Ex)
  | 0,acc,i,late=>some (.ok (acc,i,late))
  | k+1,acc,i,late=>if acc.isEmpty then (e i late).go fun y j la=>zb4 L e k (acc++[y]) j la
    else zbd L [44] i fun i'=>(e i' late).go fun y j la=>zb4 L e k (acc++[y]) j la
def zcT (L:List Tok) (op n:Int) (ks:List Ex) (i:Nat) (late:Int):Res Ex:=zbd L [41] i fun j=>some (.ok (.mk op n [] ks,j,late))
def zed (L:List Tok) (e:Nat→Int→Res Ex) (op:Int) (i:Nat) (late:Int):Res Ex:=
  zbd L [40] i fun i1=>(zb4 L e (zav op).toNat [] i1 late).go fun ks i2 la =>
    if zbU op then zbd L [44] i2 fun i3 =>
      if (tk L i3).kind=2 then zcT L op (tk L i3).n ks (zaA L i3) (if 500<(tk L i3).n∧la<0 then (tk L i3).pos else la) else zgd L i3
    else zcT L op 0 ks i2 la
def zcN (L:List Tok) (e:Nat→Int→Res Ex) (i:Nat) (late:Int):Res Ex:=
  if isT L i [40] then (e (zaA L i) late).go fun x j la=>zbd L [41] j fun k=>some (.ok (x,k,la))
  else if isT L i [116, 114, 117, 101] then some (.ok (.mk 1 1 [] [],zaA L i,late))
  else if isT L i [102, 97, 108, 115, 101] then some (.ok (.mk 1 0 [] [],zaA L i,late))
  else if za2.contains (tk L i).text then zed L e (zal (tk L i).text) (zaA L i) late
  else if (tk L i).kind=2 then some (.ok (.mk 2 (tk L i).n [] [],zaA L i,late))
  else if (tk L i).kind=1∧zaC (tk L i).text=false then some (.ok (.mk 3 0 (tk L i).text [],zaA L i,late))
  else zgd L i
inductive Lv where
  | expr | xor | conj | neg | rel | sum | prim
def pLev (L:List Tok):Nat→Lv→Nat→Int→Res Ex
  | 0,_,_,_=>none
  | f+1,.expr,i,late=>zbD L (pLev L f .xor) [[111, 114]] f i late
  | f+1,.xor,i,late=>zbD L (pLev L f .conj) [[120, 111, 114]] f i late
  | f+1,.conj,i,late=>zbD L (pLev L f .neg) [[97, 110, 100]] f i late
  | f+1,.neg,i,late=>if isT L i [110, 111, 116] then (pLev L f .neg (zaA L i) late).go fun x j la=>some (.ok (.mk 4 0 [] [x],j,la)) else pLev L f .rel i late
  | f+1,.rel,i,late=>(pLev L f .sum i late).go fun x j la =>
      if [[60],[62],[61]].contains (tk L j).text then (pLev L f .sum (zaA L j) la).go fun y k lb=>some (.ok (.mk (zal (tk L j).text) 0 [] [x,y],k,lb))
      else some (.ok (x,j,la))
  | f+1,.sum,i,late=>zbD L (pLev L f .prim) [[43],[45]] f i late
  | f+1,.prim,i,late=>zcN L (pLev L f .expr) i late
def Ex.zero:Ex := .mk 0 0 [] []
def endP (L:List Tok) (x:Ex) (i:Nat) (late:Int):Ex × Int × Int:=
  if (tk L i).kind≠0 then (.zero,(tk L i).pos,6) else if 0≤late then (.zero,late,2) else if zaR x then (x,0,0) else (.zero,0,17)
def zbw (f:Nat) (t:List UInt8):Option (Ex × Int × Int):=
  if 120<t.length then some (.zero,0,4) else match za9 t with
    | .error (a,e)=>some (.zero,a,e)
    | .ok l=>match pLev (l++[zan t]) f .expr 0 (-1) with
      | none=>none
      | some (.error (a,e))=>some (.zero,a,e)
      | some (.ok (x,i,late))=>some (endP (l++[zan t]) x i late)
end Go.Proofs.YtcikenlflcofbaaGreatDoor
namespace Go.Proofs.YtcikenlflcofbaaGreatDoor
structure Sg where
  nm:List UInt8
  kind:Int
def zay (env:List Sg) (s:List UInt8):Option Int:=(env.find? fun x=>decide (x.nm=s)).map (·.kind)
def sgB (s:Sg):Bool:=zbj s.nm && (decide (s.kind=1) || decide (s.kind=2))
def zco (pre:List Sg):List Sg→Bool
  | []=>true
  | s::l=>sgB s && ((zay pre s.nm).isNone && zco (pre++[s]) l)
def zbn (env:List Sg):Bool:=zco [] env
def sigP (op:Int):Int × Int:=
  if op=8∨op=9∨op=10 then (2,1)
  else if op=2∨op=11∨op=12∨op=13∨op=14∨op=15 then (2,2)
  else if op=22 then (1,2) else (1,1)
def chkN (env:List Sg) (op:Int) (nm:List UInt8) (l:List Int):Int × Int:=
  if op=3 then match zay env nm with
    | none=>(0,9)
    | some k=>(k,0)
  else if op=16 then (if l.getD 0 0≠1∨l.getD 1 0≠l.getD 2 0 then (0,10) else (l.getD 1 0,0))
  else if l.all (fun k=>decide (k=(sigP op).1)) then ((sigP op).2,0) else (0,10)
def chkL (f:Ex→Int × Int):List Int→List Ex→Except Int (List Int)
  | acc,[] => .ok acc
  | acc,k::ks=>if (f k).2=0 then chkL f (acc++[(f k).1]) ks else .error (f k).2
def chkG (env:List Sg):Nat→Ex→Int × Int
  | 0,_=>(0,0)
  | d+1,.mk op _ nm ks=>match chkL (chkG env d) [] ks with
    | .error e=>(0,e)
    | .ok l=>chkN env op nm l
def zix (x:Ex) (env:List Sg):Int × Int:=if zbn env=false∨zaR x=false then (0,1) else chkG env 16 x
theorem zd6 (pre:List Sg) (s:Sg) (h:zay pre s.nm=none) (x:List UInt8):zay (pre++[s]) x=if x=s.nm then some s.kind else zay pre x:=by
  unfold zay at *;rw [List.find?_append]
  by_cases hx:x=s.nm
  · subst hx
    rw [if_pos rfl]
    cases hf:pre.find? fun y=>decide (y.nm=s.nm) with
    | none=>simp
    | some y=>rw [hf] at h;cases h
  · rw [if_neg hx]
    cases hf:pre.find? fun y=>decide (y.nm=x) with
    | none=>simp [Ne.symm hx]
    | some y=>simp
end Go.Proofs.YtcikenlflcofbaaGreatDoor
namespace Go.Proofs.YtcikenlflcofbaaGreatDoor
def LeR {α:Type} (r r':Res α):Prop:=∀ v,r=some v→r'=some v
theorem LeR.refl {α:Type} (r:Res α):LeR r r:=fun _ h=>h
theorem LeR.go {α β:Type} {r r':Res α} {f f':α→Nat→Int→Res β} (hr:LeR r r') (hf:∀ x i la,LeR (f x i la) (f' x i la)):LeR (r.go f) (r'.go f'):=by
  intro v h;unfold Res.go at h
  split at h
  · cases h
  · rename_i e
    rw [hr _ rfl];exact h
  · rename_i x i la
    rw [hr _ rfl]
    exact hf x i la v h
theorem LeR.need {α:Type} {L:List Tok} {s:List UInt8} {i:Nat} {f f':Nat→Res α} (hf:∀ j,LeR (f j) (f' j)):LeR (zbd L s i f) (zbd L s i f'):=by
  unfold zbd
  split
  · exact hf _
  · exact LeR.refl _
def LeE (e e':Nat→Int→Res Ex):Prop:=∀ i la,LeR (e i la) (e' i la)
theorem zeG {L:List Tok} {e e':Nat→Int→Res Ex} (he:LeE e e') (ops:List (List UInt8)):∀ g g' x i la,g≤g'→LeR (zcp L e ops g x i la) (zcp L e' ops g' x i la)
  | 0,_,_,_,_,_=>fun _ h=>by cases h
  | g+1,0,_,_,_,h=>absurd h (by omega)
  | g+1,g'+1,x,i,la,h=>by
    unfold zcp
    split
    · exact (he _ _).go fun y j lb=>zeG he ops g g' _ _ _ (by omega)
    · exact LeR.refl _
theorem zcb {L:List Tok} {e e':Nat→Int→Res Ex} (he:LeE e e') (ops:List (List UInt8)) {g g':Nat} (hg:g≤g') (i:Nat) (la:Int):LeR (zbD L e ops g i la) (zbD L e' ops g' i la):=
  (he i la).go fun x j lb=>zeG he ops g g' x j lb hg
theorem zdt {L:List Tok} {e e':Nat→Int→Res Ex} (he:LeE e e'):∀ k acc i la,LeR (zb4 L e k acc i la) (zb4 L e' k acc i la)
  | 0,_,_,_=>LeR.refl _
  | k+1,acc,i,la=>by
    unfold zb4
    split
    · exact (he _ _).go fun y j lb=>zdt he k _ _ _
    · exact LeR.need fun i'=>(he _ _).go fun y j lb=>zdt he k _ _ _
theorem zhI {L:List Tok} {e e':Nat→Int→Res Ex} (he:LeE e e') (op:Int) (i:Nat) (la:Int):LeR (zed L e op i la) (zed L e' op i la):=
  LeR.need fun _=>(zdt he _ _ _ _).go fun _ _ _=>LeR.refl _
theorem zhJ {L:List Tok} {e e':Nat→Int→Res Ex} (he:LeE e e') (i:Nat) (la:Int):LeR (zcN L e i la) (zcN L e' i la):=by
  unfold zcN
  split
  · exact (he _ _).go fun _ _ _=>LeR.refl _
  split
  · exact LeR.refl _
  split
  · exact LeR.refl _
  split
  · exact zhI he _ _ _
  · exact LeR.refl _
theorem zef (L:List Tok):∀ f f' lv,f≤f'→LeE (pLev L f lv) (pLev L f' lv)
  | 0,_,_,_=>fun _ _ _ h=>by cases h
  | f+1,0,_,h=>absurd h (by omega)
  | f+1,f'+1,lv,h=>by
    have ih:=fun lv=>zef L f f' lv (by omega)
    intro i la
    cases lv <;> simp only [pLev]
    · exact zcb (ih _) _ (by omega) _ _
    · exact zcb (ih _) _ (by omega) _ _
    · exact zcb (ih _) _ (by omega) _ _
    · split
      · exact (ih _ _ _).go fun _ _ _=>LeR.refl _
      · exact ih _ _ _
    · refine (ih _ _ _).go fun x j lb => ?_
      split
      · exact (ih _ _ _).go fun _ _ _=>LeR.refl _
      · exact LeR.refl _
    · exact zcb (ih _) _ (by omega) _ _
    · exact zhJ (ih _) _ _
theorem zeg {f f':Nat} (h:f≤f') {t:List UInt8} {r:Ex × Int × Int} (hr:zbw f t=some r):zbw f' t=some r:=by
  unfold zbw at hr ⊢
  split at hr
  · rename_i hl;rw [if_pos hl];exact hr
  · rename_i hl
    rw [if_neg hl]
    cases ht:za9 t with
    | error e=>rw [ht] at hr;exact hr
    | ok l =>
      rw [ht] at hr
      simp only at hr ⊢
      split at hr
      · cases hr
      · rename_i hq;rw [zef _ f f' .expr h _ _ _ hq];exact hr
      · rename_i hq;rw [zef _ f f' .expr h _ _ _ hq];exact hr
structure Ends (L:List Tok):Prop where
  text:∀ j,(tk L j).kind=0→(tk L j).text=[]
  last:∀ j,(tk L j).kind≠0→j+1<L.length
theorem Ends.take {L:List Tok} (h:Ends L) {i:Nat} (hk:(tk L i).text≠[]):zaA L i=i+1∧i+1<L.length:=by
  have:(tk L i).kind≠0:=fun q=>hk (h.text i q)
  exact ⟨by unfold zaA;rw [if_neg this],h.last i this⟩
theorem Ends.isT {L:List Tok} (h:Ends L) {i:Nat} {s:List UInt8} (hs:isT L i s=true) (hn:s≠[]):zaA L i=i+1∧i+1<L.length:=by
  refine h.take ?_
  unfold Go.Proofs.YtcikenlflcofbaaGreatDoor.isT at hs;rw [eq_of_beq hs];exact hn
def Fwd {α:Type} (i:Nat) (N:Nat) (r:Res α):Prop:=∀ x j la,r=some (.ok (x,j,la))→i<j∧j<N
def FwdE (N:Nat) (e:Nat→Int→Res Ex):Prop:=∀ i la,Fwd i N (e i la)
theorem zcn {α β:Type} {r:Res α} {f:α→Nat→Int→Res β} {v:β × Nat × Int} (h:r.go f=some (.ok v)):∃ x i la,r=some (.ok (x,i,la))∧f x i la=some (.ok v):=by
  unfold Res.go at h
  split at h
  · cases h
  · cases h
  · exact ⟨_,_,_,rfl,h⟩
theorem zbA {α:Type} {L:List Tok} {s:List UInt8} {i:Nat} {f:Nat→Res α} {v:α × Nat × Int} (h:zbd L s i f=some (.ok v)):isT L i s=true∧f (zaA L i)=some (.ok v):=by
  unfold zbd at h
  split at h
  · exact ⟨‹_›,h⟩
  · cases h
theorem zfZ {L:List Tok} {e:Nat→Int→Res Ex} (hL:Ends L) (he:FwdE L.length e) (ops:List (List UInt8)) (hops:ops.contains []=false):∀ g x i la y j lb,zcp L e ops g x i la=some (.ok (y,j,lb))→i<L.length→i≤j∧j<L.length
  | 0,_,_,_,_,_,_,h,_=>by cases h
  | g+1,x,i,la,y,j,lb,h,hi=>by
    unfold zcp at h
    split at h
    · rename_i hc
      obtain ⟨z,k,lc,h1,h2⟩:=zcn h
      obtain ⟨t1,t2⟩:=hL.take (i:=i) (fun q=>by rw [q,hops] at hc;cases hc)
      have a:=he _ _ _ _ _ h1
      have b:=zfZ hL he ops hops g _ _ _ _ _ _ h2 a.2
      omega
    · cases h;exact ⟨Nat.le_refl _,hi⟩
theorem zcH {L:List Tok} {e:Nat→Int→Res Ex} (hL:Ends L) (he:FwdE L.length e) (ops:List (List UInt8)) (hops:ops.contains []=false) (g i:Nat) (la:Int):Fwd i L.length (zbD L e ops g i la):=by
  intro y j lb h;obtain ⟨z,k,lc,h1,h2⟩:=zcn h;have a:=he _ _ _ _ _ h1;have b:=zfZ hL he ops hops g _ _ _ _ _ _ h2 a.2;omega
theorem zc9 {L:List Tok} {e:Nat→Int→Res Ex} (hL:Ends L) (he:FwdE L.length e):∀ k acc i la ks j lb,zb4 L e k acc i la=some (.ok (ks,j,lb))→i<L.length→i≤j∧j<L.length
  | 0,_,_,_,_,_,_,h,hi=>by cases h;exact ⟨Nat.le_refl _,hi⟩
  | k+1,acc,i,la,ks,j,lb,h,hi=>by
    unfold zb4 at h
    split at h
    · obtain ⟨z,m,lc,h1,h2⟩:=zcn h
      have a:=he _ _ _ _ _ h1
      have b:=zc9 hL he k _ _ _ _ _ _ h2 a.2
      omega
    · obtain ⟨hc,h'⟩:=zbA h
      obtain ⟨z,m,lc,h1,h2⟩:=zcn h'
      obtain ⟨t1,t2⟩:=hL.isT hc (by decide)
      have a:=he _ _ _ _ _ h1
      have b:=zc9 hL he k _ _ _ _ _ _ h2 a.2
      omega
theorem zfX {L:List Tok} (hL:Ends L) {op n:Int} {ks:List Ex} {i:Nat} {la:Int}:Fwd i L.length (zcT L op n ks i la):=by
  intro y j lb h;obtain ⟨hc,h'⟩:=zbA h;obtain ⟨t1,t2⟩:=hL.isT hc (by decide)
  cases h'
  omega
theorem zi1 {L:List Tok} {e:Nat→Int→Res Ex} (hL:Ends L) (he:FwdE L.length e) (op:Int) (i:Nat) (la:Int):Fwd i L.length (zed L e op i la):=by
  intro y j lb h;obtain ⟨hc,h'⟩:=zbA h;obtain ⟨t1,t2⟩:=hL.isT hc (by decide);obtain ⟨ks,m,lc,h1,h2⟩:=zcn h';have a:=zc9 hL he _ _ _ _ _ _ _ h1 (by omega)
  split at h2
  · obtain ⟨hc2,h3⟩:=zbA h2
    obtain ⟨t3,t4⟩:=hL.isT hc2 (by decide)
    split at h3
    · rename_i hk
      have:=zfX hL _ _ _ h3
      have t5:zaA L (zaA L m)=zaA L m+1:=by unfold zaA;rw [if_neg];intro q;exact absurd (show (tk L (zaA L m)).kind=0 from q) (by rw [hk];decide)
      omega
    · cases h3
  · have:=zfX hL _ _ _ h2
    omega
theorem zb0 {L:List Tok} (hL:Ends L) {i:Nat} (h:(tk L i).kind≠0):zaA L i=i+1∧i+1<L.length:=⟨by unfold zaA;rw [if_neg h],hL.last i h⟩
theorem zi5 {L:List Tok} {e:Nat→Int→Res Ex} (hL:Ends L) (he:FwdE L.length e) (i:Nat) (la:Int):Fwd i L.length (zcN L e i la):=by
  intro y j lb h;unfold zcN at h
  split at h
  · rename_i hc
    obtain ⟨t1,t2⟩:=hL.isT hc (by decide)
    obtain ⟨x,m,lc,h1,h2⟩:=zcn h
    have a:=he _ _ _ _ _ h1
    obtain ⟨hc2,h3⟩:=zbA h2
    obtain ⟨t3,t4⟩:=hL.isT hc2 (by decide)
    cases h3
    omega
  split at h
  · rename_i hc
    obtain ⟨t1,t2⟩:=hL.isT hc (by decide)
    cases h;omega
  split at h
  · rename_i hc
    obtain ⟨t1,t2⟩:=hL.isT hc (by decide)
    cases h;omega
  split at h
  · rename_i hc
    obtain ⟨t1,t2⟩:=hL.take (i:=i) (fun q=>by rw [q] at hc;exact absurd hc (by decide))
    have:=zi1 hL he _ _ _ _ _ _ h
    omega
  split at h
  · rename_i hk
    obtain ⟨t1,t2⟩:=zb0 hL (i:=i) (by rw [hk];decide)
    cases h;omega
  split at h
  · rename_i hk
    obtain ⟨t1,t2⟩:=zb0 hL (i:=i) (by rw [hk.1];decide)
    cases h;omega
  · cases h
theorem ze4 {L:List Tok} (hL:Ends L):∀ f lv,FwdE L.length (pLev L f lv)
  | 0,_=>fun _ _ _ _ _ h=>by cases h
  | f+1,lv=>by
    have ih:=fun lv=>ze4 hL f lv
    intro i la
    cases lv <;> simp only [pLev]
    · exact zcH hL (ih _) _ (by decide) _ _ _
    · exact zcH hL (ih _) _ (by decide) _ _ _
    · exact zcH hL (ih _) _ (by decide) _ _ _
    · intro y j lb h
      split at h
      · rename_i hc
        obtain ⟨t1,t2⟩:=hL.isT hc (by decide)
        obtain ⟨x,m,lc,h1,h2⟩:=zcn h
        have a:=ih _ _ _ _ _ _ h1
        cases h2;omega
      · exact ih _ _ _ _ _ _ h
    · intro y j lb h
      obtain ⟨x,m,lc,h1,h2⟩:=zcn h
      have a:=ih _ _ _ _ _ _ h1
      split at h2
      · rename_i hc
        obtain ⟨t1,t2⟩:=hL.take (i:=m) (fun q=>by rw [q] at hc;exact absurd hc (by decide))
        obtain ⟨z,q,ld,h3,h4⟩:=zcn h2
        have b:=ih _ _ _ _ _ _ h3
        cases h4;omega
      · cases h2;exact a
    · exact zcH hL (ih _) _ (by decide) _ _ _
    · exact zi5 hL (ih _) _ _
def Fin {α:Type} (r:Res α):Prop:=∃ v,r=some v
theorem Fin.go {α β:Type} {r:Res α} {f:α→Nat→Int→Res β} (hr:Fin r) (hf:∀ x i la,r=some (.ok (x,i,la))→Fin (f x i la)):Fin (r.go f):=by
  obtain ⟨v,rfl⟩:=hr
  rcases v with e | ⟨x,i,la⟩
  · exact ⟨_,rfl⟩
  · exact hf x i la rfl
theorem Fin.need {α:Type} {L:List Tok} {s:List UInt8} {i:Nat} {f:Nat→Res α} (hf:isT L i s=true→Fin (f (zaA L i))):Fin (zbd L s i f):=by
  unfold zbd
  split
  · exact hf ‹_›
  · exact ⟨_,rfl⟩
theorem zfY {L:List Tok} {e:Nat→Int→Res Ex} (hL:Ends L) (he:FwdE L.length e) (ops:List (List UInt8)) (hops:ops.contains []=false):∀ g x i la,(∀ j la,i<j→Fin (e j la))→L.length-i<g→i<L.length→Fin (zcp L e ops g x i la)
  | 0,_,_,_,_,h,_=>absurd h (by omega)
  | g+1,x,i,la,hf,hg,hi=>by
    unfold zcp
    split
    · rename_i hc
      obtain ⟨t1,t2⟩:=hL.take (i:=i) (fun q=>by rw [q,hops] at hc;cases hc)
      refine (hf _ _ (by omega)).go fun y j lb h => ?_
      have a:=he _ _ _ _ _ h
      exact zfY hL he ops hops g _ _ _ (fun k lc hk=>hf k lc (by omega)) (by omega) a.2
    · exact ⟨_,rfl⟩
theorem zcG {L:List Tok} {e:Nat→Int→Res Ex} (hL:Ends L) (he:FwdE L.length e) (ops:List (List UInt8)) (hops:ops.contains []=false) (g i:Nat) (la:Int) (hf:∀ j la,i≤j→Fin (e j la)) (hg:L.length-i<g):Fin (zbD L e ops g i la):=
  (hf i la (Nat.le_refl _)).go fun x j lb h=>by
    have a:=he _ _ _ _ _ h;exact zfY hL he ops hops g _ _ _ (fun k lc hk=>hf k lc (by omega)) (by omega) a.2
theorem zec {L:List Tok} {e:Nat→Int→Res Ex} (hL:Ends L) (he:FwdE L.length e):∀ k acc i la,(∀ j la,i≤j→Fin (e j la))→Fin (zb4 L e k acc i la)
  | 0,_,_,_,_=>⟨_,rfl⟩
  | k+1,acc,i,la,hf=>by
    unfold zb4
    split
    · exact (hf _ _ (Nat.le_refl _)).go fun y j lb h=>zec hL he k _ _ _ fun q lc hq=>hf q lc (by have:=he _ _ _ _ _ h;omega)
    · refine Fin.need fun hc => ?_
      obtain ⟨t1,t2⟩:=hL.isT hc (by decide)
      exact (hf _ _ (by omega)).go fun y j lb h=>zec hL he k _ _ _ fun q lc hq=>hf q lc (by have:=he _ _ _ _ _ h;omega)
theorem zi0 {L:List Tok} {e:Nat→Int→Res Ex} (hL:Ends L) (he:FwdE L.length e) (op:Int) (i:Nat) (la:Int) (hf:∀ j la,i≤j→Fin (e j la)):Fin (zed L e op i la):=by
  refine Fin.need fun hc => ?_
  obtain ⟨t1,t2⟩:=hL.isT hc (by decide);refine (zec hL he _ _ _ _ fun j lb hj=>hf j lb (by omega)).go fun ks j lb _ => ?_
  split
  · refine Fin.need fun _ => ?_
    split
    · exact Fin.need fun _=>⟨_,rfl⟩
    · exact ⟨_,rfl⟩
  · exact Fin.need fun _=>⟨_,rfl⟩
theorem zi4 {L:List Tok} {e:Nat→Int→Res Ex} (hL:Ends L) (he:FwdE L.length e) (i:Nat) (la:Int) (hf:∀ j la,i<L.length→i<j→Fin (e j la)):Fin (zcN L e i la):=by
  unfold zcN
  split
  · rename_i hc
    obtain ⟨t1,t2⟩:=hL.isT hc (by decide)
    exact (hf _ _ (by omega) (by omega)).go fun _ _ _ _=>Fin.need fun _=>⟨_,rfl⟩
  split
  · exact ⟨_,rfl⟩
  split
  · exact ⟨_,rfl⟩
  split
  · rename_i hc
    obtain ⟨t1,t2⟩:=hL.take (i:=i) (fun q=>by rw [q] at hc;exact absurd hc (by decide))
    exact zi0 hL he _ _ _ fun j lb hj=>hf j lb (by omega) (by omega)
  split
  · exact ⟨_,rfl⟩
  split
  · exact ⟨_,rfl⟩
  · exact ⟨_,rfl⟩
def zek:Lv→Nat
  | .expr=>7 | .xor=>6 | .conj=>5 | .neg=>4 | .rel=>3 | .sum=>2 | .prim=>1
theorem zdT {L:List Tok} (hL:Ends L):∀ f lv i la,8*(L.length-i)+zek lv≤f→Fin (pLev L f lv i la)
  | 0,lv,_,_,h=>by cases lv <;> simp [zek] at h
  | f+1,lv,i,la,h=>by
    have ih:=fun lv i la=>zdT hL f lv i la
    have fw:=fun lv=>ze4 hL f lv
    cases lv <;> simp only [pLev] <;> simp only [zek] at h ih
    · exact zcG hL (fw _) _ (by decide) _ _ _ (fun j lb hj=>ih .xor j lb (by simp only [];omega)) (by omega)
    · exact zcG hL (fw _) _ (by decide) _ _ _ (fun j lb hj=>ih .conj j lb (by simp only [];omega)) (by omega)
    · exact zcG hL (fw _) _ (by decide) _ _ _ (fun j lb hj=>ih .neg j lb (by simp only [];omega)) (by omega)
    · split
      · rename_i hc
        obtain ⟨t1,t2⟩:=hL.isT hc (by decide)
        exact (ih .neg _ _ (by simp only [];omega)).go fun _ _ _ _=>⟨_,rfl⟩
      · exact ih .rel _ _ (by simp only [];omega)
    · refine (ih .sum _ _ (by simp only [];omega)).go fun x j lb hx => ?_
      have a:=fw _ _ _ _ _ _ hx
      split
      · rename_i hc
        obtain ⟨t1,t2⟩:=hL.take (i:=j) (fun q=>by rw [q] at hc;exact absurd hc (by decide))
        exact (ih .sum _ _ (by simp only [];omega)).go fun _ _ _ _=>⟨_,rfl⟩
      · exact ⟨_,rfl⟩
    · exact zcG hL (fw _) _ (by decide) _ _ _ (fun j lb hj=>ih .prim j lb (by simp only [];omega)) (by omega)
    · exact zi4 hL (fw _) _ _ fun j lb hi hj=>ih .expr j lb (by simp only [];omega)
def Err6 {α:Type} (r:Res α):Prop:=∀ a e,r=some (.error (a,e))→e=6
theorem Err6.go {α β:Type} {r:Res α} {f:α→Nat→Int→Res β} (hr:Err6 r) (hf:∀ x i la,Err6 (f x i la)):Err6 (r.go f):=by
  intro a e h;unfold Res.go at h
  split at h
  · cases h
  · cases h;exact hr a e rfl
  · exact hf _ _ _ a e h
theorem Err6.ok {α:Type} (v:α × Nat × Int):Err6 (some (.ok v):Res α):=fun _ _ h=>by cases h
theorem Err6.stop {α:Type} (L:List Tok) (i:Nat):Err6 (zgd L i:Res α):=fun _ _ h=>by cases h;rfl
theorem Err6.need {α:Type} {L:List Tok} {s:List UInt8} {i:Nat} {f:Nat→Res α} (hf:∀ j,Err6 (f j)):Err6 (zbd L s i f):=by
  unfold zbd
  split
  · exact hf _
  · exact Err6.stop _ _
theorem zcx {L:List Tok} {e:Nat→Int→Res Ex} (he:∀ i la,Err6 (e i la)) (ops:List (List UInt8)):∀ g x i la,Err6 (zcp L e ops g x i la)
  | 0,_,_,_=>fun _ _ h=>by cases h
  | g+1,x,i,la=>by
    unfold zcp
    split
    · exact (he _ _).go fun _ _ _=>zcx he ops g _ _ _
    · exact Err6.ok _
theorem zeb {L:List Tok} {e:Nat→Int→Res Ex} (he:∀ i la,Err6 (e i la)):∀ k acc i la,Err6 (zb4 L e k acc i la)
  | 0,_,_,_=>Err6.ok _
  | k+1,acc,i,la=>by
    unfold zb4
    split
    · exact (he _ _).go fun _ _ _=>zeb he k _ _ _
    · exact Err6.need fun _=>(he _ _).go fun _ _ _=>zeb he k _ _ _
theorem ziZ {L:List Tok} {e:Nat→Int→Res Ex} (he:∀ i la,Err6 (e i la)) (op:Int) (i:Nat) (la:Int):Err6 (zed L e op i la):=by
  refine Err6.need fun _=>(zeb he _ _ _ _).go fun _ _ _ => ?_
  split
  · refine Err6.need fun _ => ?_
    split
    · exact Err6.need fun _=>Err6.ok _
    · exact Err6.stop _ _
  · exact Err6.need fun _=>Err6.ok _
theorem zi3 {L:List Tok} {e:Nat→Int→Res Ex} (he:∀ i la,Err6 (e i la)) (i:Nat) (la:Int):Err6 (zcN L e i la):=by
  unfold zcN
  split
  · exact (he _ _).go fun _ _ _=>Err6.need fun _=>Err6.ok _
  split
  · exact Err6.ok _
  split
  · exact Err6.ok _
  split
  · exact ziZ he _ _ _
  split
  · exact Err6.ok _
  split
  · exact Err6.ok _
  · exact Err6.stop _ _
theorem zee (L:List Tok):∀ f lv i la,Err6 (pLev L f lv i la)
  | 0,_,_,_=>fun _ _ h=>by cases h
  | f+1,lv,i,la=>by
    have ih:=fun lv i la=>zee L f lv i la
    cases lv <;> simp only [pLev]
    · exact (ih _ _ _).go fun _ _ _=>zcx (ih _) _ _ _ _ _
    · exact (ih _ _ _).go fun _ _ _=>zcx (ih _) _ _ _ _ _
    · exact (ih _ _ _).go fun _ _ _=>zcx (ih _) _ _ _ _ _
    · split
      · exact (ih _ _ _).go fun _ _ _=>Err6.ok _
      · exact ih _ _ _
    · refine (ih _ _ _).go fun _ _ _ => ?_
      split
      · exact (ih _ _ _).go fun _ _ _=>Err6.ok _
      · exact Err6.ok _
    · exact (ih _ _ _).go fun _ _ _=>zcx (ih _) _ _ _ _ _
    · exact zi3 (ih _) _ _
theorem zkf {L:List Tok} {f:Nat} {lv:Lv} {i:Nat} {la a:Int} (h:pLev L f lv i la=some (.error (a,0))):False:=absurd (zee L f lv i la a 0 h) (by decide)
end Go.Proofs.YtcikenlflcofbaaGreatDoor
namespace Go.Proofs.YtcikenlflcofbaaGreatDoor
structure TokW (t:List UInt8) (k:Tok):Prop where
  kind:k.kind=1∨k.kind=2∨k.kind=3
  text:k.text≠[]
  pos:0≤k.pos∧k.pos<t.length
  word:k.kind=1→k.text.length≤12∧(∃ c r,k.text=c::r∧zaH c=true∧r.all zbh=true)∧k.n=0
  num:k.kind=2→k.text.all zaq=true∧k.n=decV k.text∧k.n≤32767∧(1<k.text.length→k.text.head? ≠ some 48)∧k.text.length≤5
  sym:k.kind=3→(∃ c,k.text=[c]∧symB c=true)∧k.n=0
theorem zdx (p:UInt8→Bool) (t:List UInt8) (i:Nat):i≤runB p t i∧(i≤t.length→runB p t i≤t.length):=by
  unfold runB;have:((t.drop i).takeWhile p).length≤(t.drop i).length:=(List.takeWhile_prefix p).length_le;rw [List.length_drop] at this;omega
theorem zeT (p:UInt8→Bool) (t:List UInt8) (i:Nat) (c:UInt8) (h:t[i]? = some c):cutB t i (runB p t (i+1))=c::(t.drop (i+1)).takeWhile p:=by
  obtain ⟨hi,rfl⟩:=List.getElem?_eq_some_iff.1 h;unfold cutB runB;rw [List.drop_take];have e:i+1+((t.drop (i+1)).takeWhile p).length-i=((t.drop (i+1)).takeWhile p).length+1:=by omega
  rw [e,List.drop_eq_getElem_cons hi,List.take_succ_cons]
  congr 1
  exact (List.prefix_iff_eq_take.1 (List.takeWhile_prefix p)).symm
theorem zbt (p:UInt8→Bool) (l:List UInt8):(l.takeWhile p).all p=true:=by
  induction l with
  | nil=>rfl
  | cons a l ih =>
    rw [List.takeWhile_cons]
    split
    · rename_i h;simp [h,ih]
    · rfl
theorem ziB (l:List UInt8):∀ a,l.foldl (fun a c=>10*a+(c.toNat-48)) a≥a*10 ^ l.length:=by
  induction l with
  | nil=>intro a;simp
  | cons x l ih =>
    intro a;have:=ih (10*a+(x.toNat-48));simp only [List.foldl_cons,List.length_cons,Nat.pow_succ];have h2:(10*a+(x.toNat-48))*10 ^ l.length≥10*a*10 ^ l.length:=Nat.mul_le_mul_right _ (by omega);have h3:a*(10 ^ l.length*10)=10*a*10 ^ l.length:=by rw [Nat.mul_comm (10 ^ l.length),← Nat.mul_assoc,Nat.mul_comm a]
    omega
theorem zgX {c:UInt8} {l:List UInt8} (hd:zaq c=true) (h0:c≠48) (h:decV (c::l)≤32767):l.length≤4:=by
  have hc:1≤c.toNat-48:=by
    simp only [zaq,Bool.and_eq_true,decide_eq_true_eq] at hd;have h1:48≤c.toNat:=hd.1;have:c.toNat≠48:=fun q=>h0 (UInt8.toNat.inj q)
    omega
  have h1:decV (c::l)=l.foldl (fun a c=>10*a+(c.toNat-48)) (c.toNat-48):=by simp [decV]
  have h2:=ziB l (c.toNat-48);rw [h1] at h
  by_cases hl:l.length≤4
  · exact hl
  · exfalso
    have h3:(10:Nat) ^ 5≤10 ^ l.length:=Nat.pow_le_pow_right (by omega) (by omega)
    have h4:1*10 ^ l.length≤(c.toNat-48)*10 ^ l.length:=Nat.mul_le_mul_right _ hc
    omega
theorem zhn {t:List UInt8} {i:Nat} {c:UInt8} (h:t[i]? = some c) {o:Option Tok} {j:Nat} (hk:zgI t i c = .ok (o,j)):i<j∧j≤t.length∧∀ k,o=some k→TokW t k:=by
  obtain ⟨hi,-⟩:=List.getElem?_eq_some_iff.1 h;have hw:=zdx zbh t (i+1);have hn:=zdx zaq t (i+1);unfold zgI at hk
  split at hk
  · cases hk;exact ⟨by omega,by omega,fun k q=>by cases q⟩
  split at hk
  · rename_i hl
    split at hk
    · cases hk
    · rename_i hlen
      cases hk
      refine ⟨by omega,by omega,fun k q => ?_⟩
      cases q
      have hc:=zeT zbh t i c h
      have hcl:(cutB t i (runB zbh t (i+1))).length=runB zbh t (i+1)-i:=by unfold cutB;rw [List.length_drop,List.length_take];omega
      exact ⟨.inl rfl,by rw [hc];exact List.cons_ne_nil _ _,⟨by simp,by simpa using hi⟩,fun _=>⟨by rw [hcl];omega,⟨c,_,hc,hl,zbt _ _⟩,rfl⟩,(fun q=>by cases q),(fun q=>by cases q)⟩
  split at hk
  · rename_i hd
    split at hk
    · cases hk
    · rename_i hv
      cases hk
      refine ⟨by omega,by omega,fun k q => ?_⟩
      cases q
      have hc:=zeT zaq t i c h
      refine ⟨.inr (.inl rfl),by rw [hc];exact List.cons_ne_nil _ _,⟨by simp,by simpa using hi⟩,(fun q=>by cases q),fun _=>⟨?_,rfl,?_,?_,?_⟩,(fun q=>by cases q)⟩
      · show (cutB t i (runB zaq t (i+1))).all zaq=true
        rw [hc];simp only [List.all_cons,hd,Bool.true_and];exact zbt _ _
      · show ((decV (cutB t i (runB zaq t (i+1))):Nat):Int)≤32767
        omega
      · show 1<(cutB t i (runB zaq t (i+1))).length→(cutB t i (runB zaq t (i+1))).head? ≠ some 48
        intro h1 h2
        rw [hc] at h2
        cases h2
        exact hv (.inr ⟨h1,rfl⟩)
      · show (cutB t i (runB zaq t (i+1))).length≤5
        rw [hc] at hv ⊢
        by_cases h0:c=48
        · have:¬ 1<(c::(t.drop (i+1)).takeWhile zaq).length:=fun q=>hv (.inr ⟨q,h0⟩)
          omega
        · have:=zgX hd h0 (Nat.le_of_not_lt fun q=>hv (.inl q))
          simp only [List.length_cons]
          omega
  split at hk
  · rename_i hs
    cases hk
    exact ⟨by omega,by omega,fun k q=>by cases q;exact ⟨.inr (.inr rfl),List.cons_ne_nil _ _,⟨by simp,by simpa using hi⟩,(fun q=>by cases q),(fun q=>by cases q),fun _=>⟨⟨c,rfl,hs⟩,rfl⟩⟩⟩
  · cases hk
theorem zfl (t:List UInt8):∀ f i acc l,i≤t.length→zbX t f i acc = .ok l→(∀ k∈acc,TokW t k)→(∀ k∈l,TokW t k)∧l.length≤acc.length+(t.length-i)
  | 0,i,acc,l,_,h,ha=>by cases h;exact ⟨ha,by omega⟩
  | f+1,i,acc,l,hi,h,ha=>by
    unfold zbX at h
    split at h
    · cases h;exact ⟨ha,by omega⟩
    · rename_i c hc
      split at h
      · cases h
      · rename_i j hk
        obtain ⟨h1,h2,-⟩:=zhn hc hk
        obtain ⟨a,b⟩:=zfl t f j acc l h2 h ha
        exact ⟨a,by omega⟩
      · rename_i k j hk
        obtain ⟨h1,h2,h3⟩:=zhn hc hk
        obtain ⟨a,b⟩:=zfl t f j (acc++[k]) l h2 h (fun q hq=>by
          rcases List.mem_append.1 hq with h' | h'
          · exact ha q h'
          · cases List.mem_singleton.1 h';exact h3 _ rfl)
        refine ⟨a,?_⟩
        simp only [List.length_append,List.length_singleton] at b
        omega
theorem zbu {t:List UInt8} {l:List Tok} (h:za9 t = .ok l):(∀ k∈l,TokW t k)∧l.length≤t.length:=by
  obtain ⟨a,b⟩:=zfl t _ 0 [] l (Nat.zero_le _) h (fun k hk=>by cases hk);exact ⟨a,by simpa using b⟩
theorem zge {l:List Tok} {e:Tok} (j:Nat):(∃ k,l[j]? = some k∧tk (l++[e]) j=k∧j<l.length)∨(j=l.length∧tk (l++[e]) j=e)∨(l.length<j∧tk (l++[e]) j=⟨0,[],0,0⟩):=by
  unfold tk;rw [List.getD_eq_getElem?_getD]
  rcases Nat.lt_trichotomy j l.length with h | h | h
  · refine .inl ⟨l[j],List.getElem?_eq_getElem h,?_,h⟩
    rw [List.getElem?_append_left h,List.getElem?_eq_getElem h];rfl
  · subst h
    refine .inr (.inl ⟨rfl,?_⟩)
    rw [List.getElem?_append_right (Nat.le_refl _)];simp
  · refine .inr (.inr ⟨h,?_⟩)
    rw [List.getElem?_eq_none (by simp;omega)];rfl
theorem zcR {t:List UInt8} {l:List Tok} (h:∀ k∈l,TokW t k):Ends (l++[zan t]):=by
  refine ⟨fun j hj => ?_,fun j hj => ?_⟩
  · rcases zge (l:=l) (e:=zan t) j with ⟨k,hk,hk2,_⟩ | ⟨_,hk⟩ | ⟨_,hk⟩
    · rw [hk2] at hj
      have:=(h k (List.mem_of_getElem? hk)).kind
      omega
    · rw [hk];rfl
    · rw [hk]
  · rcases zge (l:=l) (e:=zan t) j with ⟨k,hk,hk2,hl⟩ | ⟨_,hk⟩ | ⟨_,hk⟩
    · simp;omega
    · rw [hk] at hj;exact absurd rfl hj
    · rw [hk] at hj;exact absurd rfl hj
theorem zhK (t:List UInt8):∃ r,zbw 1000 t=some r:=by
  unfold zbw
  split
  · exact ⟨_,rfl⟩
  · rename_i hl
    cases ht:za9 t with
    | error e=>exact ⟨_,rfl⟩
    | ok l =>
      obtain ⟨hw,hlen⟩:=zbu ht
      obtain ⟨v,hv⟩:=zdT (zcR hw) 1000 .expr 0 (-1) (by simp [zek];omega)
      simp only [hv]
      rcases v with ⟨a,e⟩ | ⟨x,i,late⟩
      · exact ⟨_,rfl⟩
      · exact ⟨_,rfl⟩
def zaw (t:List UInt8):Ex × Int × Int:=(zbw 1000 t).getD (.zero,0,0)
theorem zdb (t:List UInt8):zbw 1000 t=some (zaw t):=by
  obtain ⟨r,hr⟩:=zhK t;unfold zaw;rw [hr];rfl
end Go.Proofs.YtcikenlflcofbaaGreatDoor
namespace Go.Proofs.YtcikenlflcofbaaGreatDoor
structure Rl where
  nm:List UInt8
  text:List UInt8
def rulG:List Rl→List Sg→List Ex→Int→Except (Int × Int) (List Sg × List Ex)
  | [],env,l,_ => .ok (env,l)
  | r::rs,env,l,i =>
    if zbj r.nm=false then .error (i,7)
    else if (zay env r.nm).isSome then .error (i,8)
    else if (zaw r.text).2.2≠0 then .error (i,(zaw r.text).2.2)
    else rulG rs (env++[⟨r.nm,1⟩]) (l++[(zaw r.text).1]) (i+1)
def kndG (env:List Sg):List Ex→Int→Option (Int × Int)
  | [],_=>none
  | x::xs,i =>
    if (chkG env 16 x).2≠0 then some (i,(chkG env 16 x).2)
    else if (chkG env 16 x).1≠1 then some (i,10)
    else kndG env xs (i+1)
def rulP (rs:List Rl) (ins:List Sg):List Ex × Int × Int:=
  if 16<rs.length∨64<ins.length then ([],0,3)
  else if zbn ins=false then ([],0,1)
  else match rulG rs ins [] 0 with
    | .error (i,e)=>([],i,e)
    | .ok (env,l)=>match kndG env l 0 with
      | some (i,e)=>([],i,e)
      | none=>(l,0,0)
theorem zgE:∀ (rs:List Rl) (env:List Sg) (l:List Ex) (i:Int) (env':List Sg) (l':List Ex),rulG rs env l i = .ok (env',l')→env'.length=env.length+rs.length∧l'.length=l.length+rs.length
  | [],env,l,i,env',l',h=>by cases h;exact ⟨rfl,rfl⟩
  | r::rs,env,l,i,env',l',h=>by
    unfold rulG at h
    split at h
    · cases h
    split at h
    · cases h
    split at h
    · cases h
    obtain ⟨a,b⟩:=zgE rs _ _ _ _ _ h;simp only [List.length_append,List.length_singleton] at a b;simp only [List.length_cons];omega
theorem zeB:∀ (l pre:List Sg) (s:Sg),zco pre (l++[s])=(zco pre l && (sgB s && (zay (pre++l) s.nm).isNone))
  | [],pre,s=>by simp [zco]
  | x::l,pre,s=>by
    have ih:=zeB l (pre++[x]) s
    show (sgB x && ((zay pre x.nm).isNone && zco (pre++[x]) (l++[s])))=((sgB x && ((zay pre x.nm).isNone && zco (pre++[x]) l)) && (sgB s && (zay (pre++x::l) s.nm).isNone))
    rw [ih];simp [Bool.and_assoc]
theorem zfH {env:List Sg} {nm:List UInt8} (h:zbn env=true) (hn:zbj nm=true) (hk:zay env nm=none):zbn (env++[⟨nm,1⟩])=true:=by
  unfold zbn at *;rw [zeB,h];simp [sgB,hn,hk]
end Go.Proofs.YtcikenlflcofbaaGreatDoor
namespace Go.Proofs.YtcikenlflcofbaaGreatDoor
def okG:Nat→Ex→Prop
  | 0,_=>False
  | d+1,.mk op n nm ks=>za7 op n nm ks.length=true∧∀ k∈ks,okG d k
theorem zk6 {f:Nat→Ex→Option Nat}:∀ {ks:List Ex} {left l:Nat},vL f left ks=some l→∀ k∈ks,∃ a b,f a k=some b
  | [],_,_,_,k,hk=>by cases hk
  | x::ks,left,l,h,k,hk=>by
    unfold vL at h
    split at h
    · cases h
    · rename_i m hm
      rcases List.mem_cons.1 hk with rfl | hk
      · exact ⟨_,_,hm⟩
      · exact zk6 h k hk
theorem zl2:∀ {d left l:Nat} {x:Ex},vG d left x=some l→okG d x
  | 0,_,_,_,h=>by cases h
  | d+1,left,l,.mk op n nm ks,h=>by
    unfold vG at h
    split at h
    · cases h
    · rename_i hn
      refine ⟨?_,fun k hk => ?_⟩
      · cases hb:za7 op n nm ks.length
        · exact absurd (.inr hb) hn
        · rfl
      · obtain ⟨a,b,hab⟩:=zk6 h k hk
        exact zl2 hab
theorem zfm {x:Ex} (h:zaR x=true):okG 16 x:=by
  unfold zaR at h
  cases hv:vG 16 60 x with
  | none=>rw [hv] at h;cases h
  | some l=>exact zl2 hv
def tkW (s:List UInt8):Int × List UInt8 × Int:=(1,s,0)
theorem zhG {op n:Int} {nm:List UInt8} {k:Nat} (h:za7 op n nm k=true):(k:Int)=zav op∧(op=3→n=0∧zbj nm=true)∧(op≠3→nm=[]∧0≤n∧n≤zcM op):=by
  unfold za7 at h;simp only [Bool.and_eq_true,decide_eq_true_eq] at h;refine ⟨h.1,fun q => ?_,fun q => ?_⟩
  · have h2:=h.2
    rw [if_pos q] at h2
    simp only [Bool.and_eq_true,decide_eq_true_eq] at h2
    exact h2
  · have h2:=h.2
    rw [if_neg q] at h2
    simp only [Bool.and_eq_true,decide_eq_true_eq,List.isEmpty_iff] at h2
    exact ⟨h2.1,h2.2.1,h2.2.2⟩
end Go.Proofs.YtcikenlflcofbaaGreatDoor
namespace Go.Proofs.YtcikenlflcofbaaGreatDoor
structure Ins where
  op:Int
  a:Int
structure Cl where
  op:Int
  n:Int
structure Em where
  code:List Ins
  cells:List Cl
  height:Int
  most:Int
def opnP (op:Int):Int:=
  if op=1∨op=2∨op=30∨op=31 then 0
  else if op=4∨op=15∨op=17∨op=18∨op=19∨op=20∨op=32 then 1
  else if op=16 then 3
  else if 5≤op∧op≤22 then 2 else -1
def zaG (op:Int):Bool:=decide (17≤op∧op≤22)
def addE (m:Em) (op a:Int):Em:=
  ⟨m.code++[⟨op,a⟩],m.cells,m.height-opnP op+(if op=32 then 0 else 1),max m.most (m.height-opnP op+(if op=32 then 0 else 1))⟩
def zbl (l:List (List UInt8)) (s:List UInt8):Option Int:=(l.zipIdx.reverse.find? fun x=>decide (x.1=s)).map fun x=>(x.2:Int)
def za8 (ins rls:List (List UInt8)) (op n:Int) (nm:List UInt8) (m:Em):Em:=
  if op=3 then match zbl ins nm with
    | some i=>addE m 30 i
    | none=>addE m 31 ((zbl rls nm).getD 0)
  else if op=1∨op=2 then addE m op n
  else if zaG op then ⟨(addE m op m.cells.length).code,m.cells++[⟨op,n⟩],(addE m op m.cells.length).height,(addE m op m.cells.length).most⟩
  else addE m op 0
def zat (ins rls:List (List UInt8)):Nat→Ex→Em→Em
  | 0,_,m=>m
  | d+1,.mk op n nm ks,m=>za8 ins rls op n nm (ks.foldl (fun m k=>zat ins rls d k m) m)
def zaM (ins rls:List (List UInt8)):List Ex→Int→Em→Em
  | [],_,m=>m
  | x::xs,i,m=>zaM ins rls xs (i+1) (addE (zat ins rls 16 x m) 32 i)
def emP (rs:List Rl) (ins:List Sg) (l:List Ex):Em:=zaM (ins.map (·.nm)) (rs.map (·.nm)) l 0 ⟨[],[],0,0⟩
def zcm (rs:List Rl) (ins:List Sg):(List Ins × List Cl) × Int × Int:=
  if (rulP rs ins).2.2≠0 then (([],[]),(rulP rs ins).2.1,(rulP rs ins).2.2)
  else if 600<(emP rs ins (rulP rs ins).1).code.length∨64<(emP rs ins (rulP rs ins).1).cells.length∨24<(emP rs ins (rulP rs ins).1).most then (([],[]),0,4)
  else (((emP rs ins (rulP rs ins).1).code,(emP rs ins (rulP rs ins).1).cells),0,0)
theorem zcd (l:List (List UInt8)) (x s:List UInt8):zbl (l++[x]) s=if x=s then some (l.length:Int) else zbl l s:=by
  unfold zbl;rw [List.zipIdx_append,List.reverse_append];simp only [List.zipIdx_cons,List.zipIdx_nil,List.reverse_cons,List.reverse_nil,List.nil_append,List.find?_cons,List.singleton_append,Nat.zero_add]
  by_cases h:x=s
  · simp [h]
  · simp [h]
theorem zcS {op n:Int} {nm:List UInt8} {k:Nat} (h:za7 op n nm k=true):1≤op∧op≤22:=by
  unfold za7 at h;rw [Bool.and_eq_true,decide_eq_true_eq] at h;have h1:=h.1;unfold zav at h1
  split at h1
  · omega
  split at h1
  · omega
  split at h1
  · omega
  split at h1
  · omega
  · omega
theorem zhg:∀ (rs:List Rl) (env:List Sg) (l:List Ex) (i:Int) (env':List Sg) (l':List Ex),rulG rs env l i = .ok (env',l')→l'=l++rs.map fun r=>(zaw r.text).1
  | [],env,l,i,env',l',h=>by cases h;simp
  | r::rs,env,l,i,env',l',h=>by
    unfold rulG at h
    split at h
    · cases h
    split at h
    · cases h
    split at h
    · cases h
    rw [zhg rs _ _ _ _ _ h];simp
theorem zfa:∀ (rs:List Rl) (env:List Sg) (l:List Ex) (i j e:Int),rulG rs env l i = .error (j,e)→e≠0
  | [],env,l,i,j,e,h=>by cases h
  | r::rs,env,l,i,j,e,h=>by
    unfold rulG at h
    split at h
    · injection h with h;injection h with _ h;rw [← h];decide
    split at h
    · injection h with h;injection h with _ h;rw [← h];decide
    split at h
    · injection h with h;injection h with _ h;rw [← h];assumption
    exact zfa rs _ _ _ _ _ h
theorem zeX (env:List Sg):∀ (l:List Ex) (i j e:Int),kndG env l i=some (j,e)→e≠0
  | [],i,j,e,h=>by cases h
  | x::l,i,j,e,h=>by
    unfold kndG at h
    split at h
    · injection h with h;injection h with _ h;rw [← h];assumption
    split at h
    · injection h with h;injection h with _ h;rw [← h];decide
    exact zeX env l _ _ _ h
theorem zfb {rs:List Rl} {ins:List Sg} (h:(rulP rs ins).2.2=0):(rulP rs ins).1=rs.map fun r=>(zaw r.text).1:=by
  unfold rulP at h ⊢
  split
  · rename_i hb;rw [if_pos hb] at h;exact absurd h (show ¬ (3:Int)=0 by decide)
  rename_i hb;rw [if_neg hb] at h
  split
  · rename_i hg;rw [if_pos hg] at h;exact absurd h (show ¬ (1:Int)=0 by decide)
  rename_i hg;rw [if_neg hg] at h
  cases hr:rulG rs ins [] 0 with
  | error e =>
    obtain ⟨i,e⟩:=e;rw [hr] at h;exact absurd h (zfa _ _ _ _ _ _ hr)
  | ok v =>
    obtain ⟨env,l⟩:=v;rw [hr] at h;have:=zhg _ _ _ _ _ _ hr;dsimp only at h ⊢
    cases hn:kndG env l 0 with
    | some v =>
      obtain ⟨i,e⟩:=v;rw [hn] at h;exact absurd h (zeX _ _ _ _ _ hn)
    | none=>simpa using this
end Go.Proofs.YtcikenlflcofbaaGreatDoor
