/-
  The verifier of compiled programs in plain words. No program is named here.
-/
import Derived.Test.YtcikenlflcofbaaGreatDoorP1
namespace Go.Proofs.YtcikenlflcofbaaGreatDoor
structure Pg where
  ins:List Sg
  rls:List (List UInt8)
  cells:List Cl
  code:List Ins
def zas (p:Pg):List (List UInt8):=p.ins.map (·.nm)++p.rls
def zb7 (pre:List (List UInt8)):List (List UInt8)→Bool
  | []=>false
  | s::l=>decide (s∈pre) || zb7 (pre++[s]) l
def zfN (s:Sg):Bool:=decide (s.kind=1∨s.kind=2)
def hdrP (p:Pg):Int:=
  if 64<p.ins.length∨16<p.rls.length∨64<p.cells.length∨600<p.code.length then 3
  else if (zas p).all zbj=false then 7
  else if zb7 [] (zas p)=true then 8
  else if p.ins.all zfN=false then 10
  else 0
structure Vs where
  st:List Int
  stored:Nat
  used:Nat
def zgn (c:Ins) (l:Cl):Bool:=decide (l.op=c.op∧0≤l.n∧l.n≤(if c.op=19∨c.op=20 then 500 else 0))
def argP (p:Pg) (stored used:Nat) (c:Ins):Bool:=
  if c.op=1 then decide (c.a=0∨c.a=1)
  else if c.op=2 then decide (0≤c.a∧c.a≤32767)
  else if c.op=30 then decide (0≤c.a∧c.a<p.ins.length)
  else if c.op=31 then decide (0≤c.a∧c.a<p.rls.length)
  else if c.op=32 then decide (c.a=stored∧c.a<p.rls.length)
  else if zaG c.op=false then decide (c.a=0)
  else decide (c.a=used) && match p.cells[used]? with
    | some l=>zgn c l
    | none=>false
def kndP (p:Pg) (c:Ins) (l:List Int):Option Int:=
  if c.op=16 then (if l.getD 0 0=1∧l.getD 1 0=l.getD 2 0 then some (l.getD 1 0) else none)
  else if l.all (fun k=>decide (k=(sigP c.op).1)) then some (if c.op=30 then (p.ins.getD c.a.toNat ⟨[],0⟩).kind else (sigP c.op).2) else none
def zbp (v:Vs) (c:Ins):Nat:=v.st.length-(opnP c.op).toNat
def zby (p:Pg) (v:Vs) (c:Ins):Except Int Vs:=
  if opnP c.op<0 then .error 15
  else if argP p v.stored v.used c=false then .error 9
  else if v.st.length<(opnP c.op).toNat then .error 11
  else match kndP p c (v.st.drop (zbp v c)) with
    | none => .error 10
    | some k =>
      if c.op=32 then (if 0<zbp v c then .error 20 else .ok ⟨v.st.take (zbp v c),v.stored+1,v.used⟩)
      else if 24<zbp v c+1 then .error 17
      else .ok ⟨v.st.take (zbp v c)++[k],v.stored,if zaG c.op then v.used+1 else v.used⟩
def runG (p:Pg):List Ins→Int→Vs→Int→Int × Int × Int
  | [],i,v,most=>if v.st≠[] then (i,0,14) else if v.stored<p.rls.length∨v.used<p.cells.length then (i,0,11) else (0,most,0)
  | c::l,i,v,most=>match zby p v c with
    | .error e=>(i,0,e)
    | .ok v'=>runG p l (i+1) v' (max most v'.st.length)
def verP (p:Pg):Int × Int × Int:=if hdrP p≠0 then (0,0,hdrP p) else runG p p.code 0 ⟨[],0,0⟩ 0
theorem zdV (p:Pg) (i:Int) (v:Vs) (most:Int):runG p [] i v most=if v.st≠[] then (i,0,14) else if v.stored<p.rls.length∨v.used<p.cells.length then (i,0,11) else (0,most,0):=rfl
theorem zdg (p:Pg) (c:Ins) (l:List Ins) (i:Int) (v:Vs) (most:Int):runG p (c::l) i v most=match zby p v c with
    | .error e=>(i,0,e)
    | .ok v'=>runG p l (i+1) v' (max most v'.st.length):=rfl
theorem zgf:∀ (l pre:List (List UInt8)),zb7 pre l=false↔(∀ s∈l,s ∉ pre)∧l.Pairwise (· ≠ ·)
  | [],pre=>by simp [zb7]
  | s::l,pre=>by
    unfold zb7;rw [Bool.or_eq_false_iff,zgf l (pre++[s])];simp only [decide_eq_false_iff_not,List.mem_append,List.mem_singleton,not_or,List.pairwise_cons,List.forall_mem_cons]
    constructor
    · rintro ⟨h1,h2,h3⟩
      exact ⟨⟨h1,fun x hx=>(h2 x hx).1⟩,fun x hx q=>(h2 x hx).2 q.symm,h3⟩
    · rintro ⟨⟨h1,h2⟩,h3,h4⟩
      exact ⟨h1,fun x hx=>⟨h2 x hx,fun q=>h3 x hx q.symm⟩,h4⟩
theorem zkC {p:Pg} {v v':Vs} {c:Ins} (h:zby p v c = .ok v'):0≤opnP c.op∧argP p v.stored v.used c=true∧(opnP c.op).toNat≤v.st.length:=by
  unfold zby at h
  split at h
  · cases h
  split at h
  · cases h
  split at h
  · cases h
  rename_i h1 h2 h3;exact ⟨by omega,by simpa using h2,by omega⟩
end Go.Proofs.YtcikenlflcofbaaGreatDoor
namespace Go.Proofs.YtcikenlflcofbaaGreatDoor
theorem zjo {st kk:List Int} {c:Ins} (h:opnP c.op=kk.length) (a b:Nat):zbp ⟨st++kk,a,b⟩ c=st.length:=by
  unfold zbp;simp only [List.length_append];omega
theorem zh5 {p:Pg} {c:Ins} {st kk:List Int} {a b:Nat} {k:Int} (h0:opnP c.op=kk.length) (h1:argP p a b c=true) (h2:kndP p c kk=some k) (h3:c.op≠32) (h4:st.length+1≤24) :
    zby p ⟨st++kk,a,b⟩ c = .ok ⟨st++[k],a,if zaG c.op then b+1 else b⟩:=by
  unfold zby;rw [if_neg (by omega),if_neg (by rw [h1];decide),if_neg (by simp only [List.length_append];omega),zjo h0];simp only [List.drop_left,List.take_left,h2];rw [if_neg h3,if_neg (by omega)]
theorem zgF {p:Pg} {a b:Nat} (h:a<p.rls.length):zby p ⟨[1],a,b⟩ ⟨32,(a:Int)⟩ = .ok ⟨[],a+1,b⟩:=by
  unfold zby;have ho:opnP 32=1:=by decide
  have ha:argP p a b ⟨32,(a:Int)⟩=true:=by unfold argP;simp [h]
  have hk:kndP p ⟨32,(a:Int)⟩ [1]=some 1:=by unfold kndP;simp [sigP]
  simp only [ho,zbp];rw [if_neg (by decide),if_neg (by rw [ha];decide),if_neg (by decide)];simp [hk]
def VRun (p:Pg) (c:List Ins) (v:Vs) (a:Int) (v':Vs) (a':Int):Prop:=∀ rest i,runG p (c++rest) i v a=runG p rest (i+c.length) v' a'
theorem VRun.nil {p:Pg} {v:Vs} {a:Int}:VRun p [] v a v a:=fun rest i=>by simp
theorem VRun.app {p:Pg} {c c':List Ins} {v v1 v2:Vs} {a a1 a2:Int} (h:VRun p c v a v1 a1) (k:VRun p c' v1 a1 v2 a2):VRun p (c++c') v a v2 a2:=fun rest i=>by
  rw [List.append_assoc,h,k,List.length_append]
  congr 1
  omega
theorem VRun.one {p:Pg} {c:Ins} {v v':Vs} {a:Int} (h:zby p v c = .ok v'):VRun p [c] v a v' (max a v'.st.length):=fun rest i=>by
  show runG p (c::rest) i v a=_
  rw [zdg,h]
  rfl
theorem zhk {α:Type} {P:List α→Prop} (h0:P []) (h1:∀ l x,P l→P (l++[x])) (l:List α):P l:=by
  rw [← List.reverse_reverse l]
  induction l.reverse with
  | nil=>exact h0
  | cons x l ih=>rw [List.reverse_cons];exact h1 _ _ ih
theorem zfE {α:Type} (l:List α) (x d:α):(l++[x]).getD l.length d=x:=by simp [List.getD_eq_getElem?_getD]
theorem zgZ {α:Type} {l:List α} {i:Nat} (h:i<l.length) (x d:α):(l++[x]).getD i d=l.getD i d:=by simp [List.getD_eq_getElem?_getD,List.getElem?_append_left h]
theorem zgB:∀ (l:List (List UInt8)) (s:List UInt8) (i:Int),zbl l s=some i→∃ j:Nat,j<l.length∧i=(j:Int)∧l.getD j []=s:=by
  intro l
  induction l using zhk with
  | h0=>intro s i h;cases h
  | h1 l x ih =>
    intro s i h;rw [zcd] at h
    split at h
    · rename_i he
      cases h
      exact ⟨l.length,by simp,rfl,by rw [zfE];exact he⟩
    · obtain ⟨j,hj,e1,e2⟩:=ih s i h
      exact ⟨j,by simp;omega,e1,by rw [zgZ hj];exact e2⟩
theorem zhQ:∀ (l:List (List UInt8)) (s:List UInt8),s∈l→∃ i,zbl l s=some i:=by
  intro l
  induction l using zhk with
  | h0=>intro s h;cases h
  | h1 l x ih =>
    intro s h;rw [zcd]
    by_cases he:x=s
    · exact ⟨_,if_pos he⟩
    · rw [if_neg he]
      exact ih s (by rcases List.mem_append.1 h with q | q;exact q;exact absurd (List.mem_singleton.1 q).symm he)
def PlaceOk (env:List Sg):Prop:=∀ nm,match zay env nm with
  | some k=>∃ i:Nat,i<env.length∧zbl (env.map (·.nm)) nm=some (i:Int)∧env.getD i ⟨[],0⟩=⟨nm,k⟩
  | none=>zbl (env.map (·.nm)) nm=none
theorem PlaceOk.snoc {env:List Sg} {s:Sg} (h:PlaceOk env) (hk:zay env s.nm=none):PlaceOk (env++[s]):=by
  intro nm;rw [zd6 env s hk,List.map_append,List.map_singleton,zcd]
  by_cases he:nm=s.nm
  · subst he
    rw [if_pos rfl,if_pos rfl]
    exact ⟨env.length,by simp,by rw [List.length_map],by rw [zfE]⟩
  · rw [if_neg he,if_neg (fun q=>he q.symm)]
    have:=h nm
    cases hk2:zay env nm with
    | none=>rw [hk2] at this;exact this
    | some k =>
      rw [hk2] at this
      obtain ⟨i,hi,h1,h2⟩:=this
      exact ⟨i,by simp;omega,h1,by rw [zgZ hi];exact h2⟩
theorem PlaceOk.good:∀ (l pre:List Sg),zco pre l=true→PlaceOk pre→PlaceOk (pre++l)
  | [],pre,_,hp=>by rw [List.append_nil];exact hp
  | s::l,pre,h,hp=>by
    unfold zco at h;simp only [Bool.and_eq_true,Option.isNone_iff_eq_none] at h;have:=PlaceOk.good l (pre++[s]) h.2.2 (hp.snoc h.2.1);simpa using this
theorem zhA (a b:List Sg) (nm:List UInt8):zay (a++b) nm=match zay a nm with | some k=>some k | none=>zay b nm:=by
  unfold zay;rw [List.find?_append]
  cases a.find? fun x=>decide (x.nm=nm) with
  | none=>rfl
  | some y=>rfl
theorem zfP (rs:List Rl) (nm:List UInt8) (k:Int) (h:zay (rs.map fun r=>(⟨r.nm,1⟩:Sg)) nm=some k):k=1∧nm∈rs.map (·.nm):=by
  unfold zay at h;obtain ⟨s,hs,he⟩:=Option.map_eq_some_iff.1 h;have h1:=List.find?_some hs;have h2:=List.mem_of_find?_eq_some hs;obtain ⟨r,hr,rfl⟩:=List.mem_map.1 h2;simp only [decide_eq_true_eq] at h1;exact ⟨he.symm,List.mem_map.2 ⟨r,hr,h1⟩⟩
def EnvW (env:List Sg) (ins:List Sg) (rls:List (List UInt8)):Prop:=∀ nm k,zay env nm=some k →
  (∃ i:Nat,i<ins.length∧zbl (ins.map (·.nm)) nm=some (i:Int)∧ins.getD i ⟨[],0⟩=⟨nm,k⟩) ∨
  (zbl (ins.map (·.nm)) nm=none∧k=1∧∃ j:Nat,j<rls.length∧zbl rls nm=some (j:Int)∧rls.getD j []=nm)
theorem zhf:∀ (rs:List Rl) (env:List Sg) (l:List Ex) (i:Int) (env':List Sg) (l':List Ex),rulG rs env l i = .ok (env',l')→env'=env++rs.map (fun r=>⟨r.nm,1⟩)∧(zbn env=true→zbn env'=true)∧∀ r∈rs,(zaw r.text).2.2=0
  | [],env,l,i,env',l',h=>by cases h;exact ⟨by simp,fun h=>h,fun _ h=>by cases h⟩
  | r::rs,env,l,i,env',l',h=>by
    unfold rulG at h
    split at h
    · cases h
    rename_i h1
    split at h
    · cases h
    rename_i h2
    split at h
    · cases h
    rename_i h3;obtain ⟨a,b,c⟩:=zhf rs _ _ _ _ _ h;refine ⟨by rw [a];simp,fun hg=>b (zfH hg (by simpa using h1) (by simpa using h2)),fun x hx => ?_⟩
    rcases List.mem_cons.1 hx with rfl | hx
    · simpa using h3
    · exact c x hx
theorem zg3 (env:List Sg):∀ (l:List Ex) (i:Int),kndG env l i=none→∀ x∈l,chkG env 16 x=(1,0)
  | [],_,_,x,hx=>by cases hx
  | y::l,i,h,x,hx=>by
    unfold kndG at h
    split at h
    · cases h
    rename_i h1
    split at h
    · cases h
    rename_i h2
    rcases List.mem_cons.1 hx with rfl | hx
    · exact Prod.ext (by simpa using h2) (by simpa using h1)
    · exact zg3 env l _ h x hx
structure RulOk (rs:List Rl) (ins:List Sg) (env:List Sg):Prop where
  few:rs.length≤16∧ins.length≤64
  all:env=ins++rs.map fun r=>⟨r.nm,1⟩
  good:zbn env=true
  good0:zbn ins=true
  list:(rulP rs ins).1=rs.map fun r=>(zaw r.text).1
  parse:∀ r∈rs,(zaw r.text).2.2=0
  kind:∀ x∈(rulP rs ins).1,chkG env 16 x=(1,0)
theorem zhh {rs:List Rl} {ins:List Sg} (h:(rulP rs ins).2.2=0):∃ env,RulOk rs ins env:=by
  have hm:=zfb h;unfold rulP at h hm
  split at h
  · exact absurd h (show ¬ (3:Int)=0 by decide)
  rename_i hb;rw [if_neg hb] at hm
  split at h
  · exact absurd h (show ¬ (1:Int)=0 by decide)
  rename_i hg;rw [if_neg hg] at hm
  cases hr:rulG rs ins [] 0 with
  | error e =>
    obtain ⟨i,e⟩:=e;rw [hr] at h;exact absurd h (zfa _ _ _ _ _ _ hr)
  | ok v =>
    obtain ⟨env,l⟩:=v;rw [hr] at h hm;obtain ⟨e1,e2,e3⟩:=zhf _ _ _ _ _ _ hr;dsimp only at h hm
    cases hn:kndG env l 0 with
    | some v =>
      obtain ⟨i,e⟩:=v;rw [hn] at h;exact absurd h (zeX _ _ _ _ _ hn)
    | none =>
      have hl:(rulP rs ins).1=l:=by unfold rulP;rw [if_neg hb,if_neg hg,hr];dsimp only;rw [hn]
      rw [hn] at hm;refine ⟨env,⟨by omega,e1,e2 (by simpa using hg),by simpa using hg,by rw [hl];exact hm,e3,?_⟩⟩
      rw [hl];exact zg3 env l 0 hn
theorem RulOk.envW {rs:List Rl} {ins env:List Sg} (h:RulOk rs ins env):EnvW env ins (rs.map (·.nm)):=by
  intro nm k hk;have hp:=PlaceOk.good ins [] h.good0 (fun nm=>rfl);rw [List.nil_append] at hp;rw [h.all,zhA] at hk;have:=hp nm
  cases hi:zay ins nm with
  | some k' =>
    rw [hi] at this hk
    cases hk
    exact .inl this
  | none =>
    rw [hi] at this hk;obtain ⟨e1,e2⟩:=zfP rs nm k hk;obtain ⟨i,hi⟩:=zhQ _ _ e2;obtain ⟨j,hj,rfl,hj2⟩:=zgB _ _ _ hi;exact .inr ⟨this,e1,j,hj,hi,hj2⟩
theorem zb8 (m:Em) (o a:Int):m.most≤(addE m o a).most:=Int.le_max_left _ _
theorem zfU (ins rls:List (List UInt8)) (op n:Int) (nm:List UInt8) (m:Em):m.most≤(za8 ins rls op n nm m).most:=by
  unfold za8
  split
  · split
    · exact zb8 _ _ _
    · exact zb8 _ _ _
  split
  · exact zb8 _ _ _
  split
  · exact zb8 m op m.cells.length
  · exact zb8 _ _ _
theorem zdp (ins rls:List (List UInt8)) (op n:Int) (nm:List UInt8) (m:Em):m.cells <+: (za8 ins rls op n nm m).cells:=by
  unfold za8
  split
  · split
    · exact List.prefix_refl _
    · exact List.prefix_refl _
  split
  · exact List.prefix_refl _
  split
  · exact List.prefix_append _ _
  · exact List.prefix_refl _
theorem zc0 {f:Em→Ex→Em} (hf:∀ m k,m.most≤(f m k).most∧m.cells <+: (f m k).cells):∀ (ks:List Ex) (m:Em),m.most≤(ks.foldl f m).most∧m.cells <+: (ks.foldl f m).cells
  | [],m=>⟨Int.le_refl _,List.prefix_refl _⟩
  | k::ks,m=>by
    have h1:=hf m k;have h2:=zc0 hf ks (f m k);exact ⟨Int.le_trans h1.1 h2.1,h1.2.trans h2.2⟩
theorem zcY (ins rls:List (List UInt8)):∀ (d:Nat) (x:Ex) (m:Em),m.most≤(zat ins rls d x m).most∧m.cells <+: (zat ins rls d x m).cells
  | 0,_,m=>⟨Int.le_refl _,List.prefix_refl _⟩
  | d+1,.mk op n nm ks,m=>by
    have h1:=zc0 (f:=fun m k=>zat ins rls d k m) (fun m k=>zcY ins rls d k m) ks m;exact ⟨Int.le_trans h1.1 (zfU ins rls op n nm _),h1.2.trans (zdp ins rls op n nm _)⟩
theorem zdw (ins rls:List (List UInt8)):∀ (l:List Ex) (i:Int) (m:Em),m.most≤(zaM ins rls l i m).most∧m.cells <+: (zaM ins rls l i m).cells
  | [],i,m=>⟨Int.le_refl _,List.prefix_refl _⟩
  | x::l,i,m=>by
    have h1:=zcY ins rls 16 x m;have h2:=zdw ins rls l (i+1) (addE (zat ins rls 16 x m) 32 i);exact ⟨Int.le_trans h1.1 (Int.le_trans (zb8 _ _ _) h2.1),h1.2.trans h2.2⟩
def insN (ins rls:List (List UInt8)) (op n:Int) (nm:List UInt8) (u:Nat):Ins:=
  if op=3 then match zbl ins nm with
    | some i=>⟨30,i⟩
    | none=>⟨31,(zbl rls nm).getD 0⟩
  else if op=1∨op=2 then ⟨op,n⟩
  else if zaG op then ⟨op,u⟩ else ⟨op,0⟩
theorem zc7 (ins rls:List (List UInt8)) (op n:Int) (nm:List UInt8) (m:Em) (h32:op≠32) :
    (za8 ins rls op n nm m).code=m.code++[insN ins rls op n nm m.cells.length]∧(za8 ins rls op n nm m).height=m.height-opnP (insN ins rls op n nm m.cells.length).op+1 ∧
    (za8 ins rls op n nm m).most=max m.most (m.height-opnP (insN ins rls op n nm m.cells.length).op+1)∧(za8 ins rls op n nm m).cells=m.cells++(if zaG op=true then [⟨op,n⟩] else [])∧(insN ins rls op n nm m.cells.length).op≠32:=by
  unfold za8 insN
  by_cases h3:op=3
  · subst h3
    simp only [if_true]
    cases zbl ins nm with
    | none=>exact ⟨rfl,rfl,rfl,by simp [addE,zaG],show (31:Int)≠32 by decide⟩
    | some v=>exact ⟨rfl,rfl,rfl,by simp [addE,zaG],show (30:Int)≠32 by decide⟩
  rw [if_neg h3,if_neg h3]
  by_cases h12:op=1∨op=2
  · rw [if_pos h12,if_pos h12]
    have hk:zaG op=false:=by unfold zaG;simp;omega
    refine ⟨rfl,?_,?_,by simp [addE,hk],h32⟩
    · show (addE m op n).height=_;unfold addE;simp only;rw [if_neg h32]
    · show (addE m op n).most=_;unfold addE;simp only;rw [if_neg h32]
  rw [if_neg h12,if_neg h12]
  cases hk:zaG op with
  | true =>
    simp only [if_true];refine ⟨rfl,?_,?_,trivial,h32⟩
    · show (addE m op _).height=_;unfold addE;simp only;rw [if_neg h32]
    · show (addE m op _).most=_;unfold addE;simp only;rw [if_neg h32]
  | false =>
    simp only [Bool.false_eq_true,if_false];refine ⟨rfl,?_,?_,by simp [addE],h32⟩
    · show (addE m op _).height=_;unfold addE;simp only;rw [if_neg h32]
    · show (addE m op _).most=_;unfold addE;simp only;rw [if_neg h32]
theorem zfW {op:Int} (h1:1≤op) (h2:op≤22) (h3:op≠3):opnP op=zav op:=by
  have hop:op=1∨op=2∨op=4∨op=5∨op=6∨op=7∨op=8∨op=9∨op=10∨op=11∨op=12∨op=13∨op=14∨op=15∨op=16∨op=17∨op=18∨op=19∨op=20∨op=21∨op=22:=by omega
  rcases hop with rfl | rfl | rfl | rfl | rfl | rfl | rfl | rfl | rfl | rfl | rfl | rfl | rfl | rfl | rfl | rfl | rfl | rfl | rfl | rfl | rfl <;> decide
theorem zd8 {op n:Int} {nm:List UInt8} {k:Nat} (h:za7 op n nm k=true):(k:Int)=zav op∧1≤op∧op≤22∧(op=3→n=0∧zbj nm=true)∧(op≠3→nm=[]∧0≤n∧n≤zcM op):=by
  have hop:=zcS h;unfold za7 at h;rw [Bool.and_eq_true,decide_eq_true_eq] at h;refine ⟨h.1,hop.1,hop.2,fun e => ?_,fun e => ?_⟩
  · have h2:=h.2
    rw [if_pos e] at h2
    simpa using h2
  · have h2:=h.2
    rw [if_neg e] at h2
    simp only [Bool.and_eq_true,decide_eq_true_eq,List.isEmpty_iff] at h2
    exact h2
theorem zkH {p:Pg} {env:List Sg} (hE:EnvW env p.ins p.rls) {op n:Int} {nm:List UInt8} {kk:List Int} {k:Int} {m:Em} {st:List Int} {a:Nat}
    (hn:za7 op n nm kk.length=true) (hc:chkN env op nm kk=(k,0)) (hh:m.height=st.length+kk.length)
    (hm:(za8 (p.ins.map (·.nm)) p.rls op n nm m).most≤24) (hp:(za8 (p.ins.map (·.nm)) p.rls op n nm m).cells <+: p.cells) :
    (za8 (p.ins.map (·.nm)) p.rls op n nm m).height=st.length+1 ∧
    VRun p [insN (p.ins.map (·.nm)) p.rls op n nm m.cells.length] ⟨st++kk,a,m.cells.length⟩ m.most ⟨st++[k],a,(za8 (p.ins.map (·.nm)) p.rls op n nm m).cells.length⟩ (za8 (p.ins.map (·.nm)) p.rls op n nm m).most:=by
  obtain ⟨h1,h2,h3,h4,h5⟩:=zd8 hn;obtain ⟨c1,c2,c3,c4,c5⟩:=zc7 (p.ins.map (·.nm)) p.rls op n nm m (by omega);rw [c4] at hp;rw [c2,c3,c4];rw [c3] at hm
  have key:opnP (insN (p.ins.map (·.nm)) p.rls op n nm m.cells.length).op=kk.length∧argP p a m.cells.length (insN (p.ins.map (·.nm)) p.rls op n nm m.cells.length)=true∧kndP p (insN (p.ins.map (·.nm)) p.rls op n nm m.cells.length) kk=some k∧zaG (insN (p.ins.map (·.nm)) p.rls op n nm m.cells.length).op=zaG op:=by
    by_cases e3:op=3
    · subst e3
      have hk0:kk=[]:=List.eq_nil_of_length_eq_zero (by have:zav 3=0:=by decide
                                                        omega)
      subst hk0
      have hkd:zay env nm=some k:=by
        unfold chkN at hc
        rw [if_pos rfl] at hc
        cases hq:zay env nm with
        | none=>rw [hq] at hc;cases hc
        | some k'=>rw [hq] at hc;cases hc;rfl
      unfold insN
      rw [if_pos rfl]
      rcases hE nm k hkd with ⟨i,hi,hpl,hat⟩ | ⟨hno,rfl,j,hj,hpl,hat⟩
      · rw [hpl]
        refine ⟨rfl,?_,?_,rfl⟩
        · unfold argP;simp [hi]
        · unfold kndP;simp only [List.all_nil];simp [show p.ins[i]?.getD (⟨[],0⟩:Sg)=⟨nm,k⟩ by rw [← List.getD_eq_getElem?_getD];exact hat]
      · rw [hno,hpl]
        refine ⟨rfl,?_,?_,rfl⟩
        · unfold argP;simp [hj]
        · unfold kndP;simp [sigP]
    · obtain ⟨hnm,hn0,hnm2⟩:=h5 e3
      have ho:opnP op=kk.length:=by rw [zfW h2 h3 e3,h1]
      have hkn:∀ z,kndP p ⟨op,z⟩ kk=some k:=by
        intro z
        unfold chkN at hc
        rw [if_neg e3] at hc
        unfold kndP
        dsimp only
        by_cases e16:op=16
        · rw [if_pos e16] at hc ⊢
          split at hc
          · cases hc
          · rename_i hq
            cases hc
            rw [if_pos (by
              constructor
              · exact Decidable.byContradiction fun q=>hq (.inl q)
              · exact Decidable.byContradiction fun q=>hq (.inr q))]
        · rw [if_neg e16] at hc ⊢
          split at hc
          · rename_i hq
            cases hc
            rw [if_pos hq,if_neg (by omega)]
          · cases hc
      unfold insN
      rw [if_neg e3]
      by_cases e12:op=1∨op=2
      · rw [if_pos e12]
        refine ⟨ho,?_,hkn _,rfl⟩
        unfold argP
        rcases e12 with rfl | rfl
        · have:zcM 1=1:=by decide
          simp;omega
        · have:zcM 2=32767:=by decide
          simp;omega
      · rw [if_neg e12]
        cases hkb:zaG op with
        | false =>
          simp only [Bool.false_eq_true,if_false]
          refine ⟨ho,?_,hkn _,hkb⟩
          unfold argP
          dsimp only
          rw [if_neg (by omega),if_neg (by omega),if_neg (by omega),if_neg (by omega),if_neg (by omega),if_pos hkb]
          rfl
        | true =>
          simp only [if_true]
          refine ⟨ho,?_,hkn _,hkb⟩
          unfold argP
          dsimp only
          have hk17:17≤op∧op≤22:=by unfold zaG at hkb;simpa using hkb
          rw [if_neg (by omega),if_neg (by omega),if_neg (by omega),if_neg (by omega),if_neg (by omega),if_neg (by rw [hkb];decide)]
          rw [hkb,if_pos rfl] at hp
          obtain ⟨t,ht⟩:=hp
          have hat:p.cells[m.cells.length]? = some ⟨op,n⟩:=by rw [← ht];simp
          rw [hat]
          have:zcM op≤(if op=19∨op=20 then 500 else 0):=by unfold zcM;rw [if_neg (by omega),if_neg (by omega)];exact Int.le_refl _
          simp only [zgn,decide_true,Bool.true_and,decide_eq_true_eq]
          exact ⟨trivial,hn0,by omega⟩
  obtain ⟨k1,k2,k3,k4⟩:=key;rw [k1] at hm ⊢;have hst:=zh5 (st:=st) k1 k2 k3 c5 (by omega);rw [k4] at hst;have hv:=VRun.one (a:=m.most) hst;refine ⟨by omega,?_⟩
  have e1:(m.cells++if zaG op=true then [(⟨op,n⟩:Cl)] else []).length=if zaG op=true then m.cells.length+1 else m.cells.length:=by
    cases zaG op <;> simp
  rw [e1];have e2:max m.most (m.height-(kk.length:Int)+1)=max m.most ((st++[k]).length:Int):=by simp only [List.length_append,List.length_singleton];omega
  rw [e2];exact hv
theorem zhr {p:Pg} {env:List Sg} (hE:EnvW env p.ins p.rls):∀ (d:Nat) (x:Ex) (m:Em) (st:List Int) (a:Nat) (k:Int),okG d x→chkG env d x=(k,0)→m.height=st.length →
    (zat (p.ins.map (·.nm)) p.rls d x m).most≤24→(zat (p.ins.map (·.nm)) p.rls d x m).cells <+: p.cells →
    ∃ c,(zat (p.ins.map (·.nm)) p.rls d x m).code=m.code++c∧(zat (p.ins.map (·.nm)) p.rls d x m).height=st.length+1 ∧
      VRun p c ⟨st,a,m.cells.length⟩ m.most ⟨st++[k],a,(zat (p.ins.map (·.nm)) p.rls d x m).cells.length⟩ (zat (p.ins.map (·.nm)) p.rls d x m).most
  | 0,_,_,_,_,_,h,_,_,_,_=>h.elim
  | d+1,.mk op n nm ks,m,st,a,k,hok,hc,hh,hm,hp=>by
    have hres:zat (p.ins.map (·.nm)) p.rls (d+1) (.mk op n nm ks) m=za8 (p.ins.map (·.nm)) p.rls op n nm (ks.foldl (fun m k=>zat (p.ins.map (·.nm)) p.rls d k m) m):=rfl;rw [hres] at hm hp ⊢
    have fold:∀ (ks:List Ex) (m:Em) (st acc l:List Int),(∀ k∈ks,okG d k)→chkL (chkG env d) acc ks = .ok l→m.height=st.length →
        (ks.foldl (fun m k=>zat (p.ins.map (·.nm)) p.rls d k m) m).most≤24→(ks.foldl (fun m k=>zat (p.ins.map (·.nm)) p.rls d k m) m).cells <+: p.cells →
        ∃ c kk,l=acc++kk∧kk.length=ks.length∧(ks.foldl (fun m k=>zat (p.ins.map (·.nm)) p.rls d k m) m).code=m.code++c∧(ks.foldl (fun m k=>zat (p.ins.map (·.nm)) p.rls d k m) m).height=st.length+kk.length ∧
          VRun p c ⟨st,a,m.cells.length⟩ m.most ⟨st++kk,a,(ks.foldl (fun m k=>zat (p.ins.map (·.nm)) p.rls d k m) m).cells.length⟩ (ks.foldl (fun m k=>zat (p.ins.map (·.nm)) p.rls d k m) m).most:=by
      intro ks
      induction ks with
      | nil =>
        intro m st acc l _ hl hh _ _
        cases hl
        exact ⟨[],[],by simp,rfl,by simp,by simpa using hh,by simpa using VRun.nil⟩
      | cons x ks ih =>
        intro m st acc l hok hl hh hm hp;unfold chkL at hl
        split at hl
        · rename_i hx0
          have hmm:=zc0 (f:=fun m k=>zat (p.ins.map (·.nm)) p.rls d k m) (fun m k=>zcY (p.ins.map (·.nm)) p.rls d k m) ks (zat (p.ins.map (·.nm)) p.rls d x m)
          rw [List.foldl_cons] at hm hp ⊢
          obtain ⟨c1,e1,e2,r1⟩:=zhr hE d x m st a (chkG env d x).1 (hok x (List.mem_cons_self ..)) (Prod.ext rfl hx0) hh (Int.le_trans hmm.1 hm) (hmm.2.trans hp)
          obtain ⟨c2,kk,f0,f1,f2,f3,r2⟩:=ih (zat (p.ins.map (·.nm)) p.rls d x m) (st++[(chkG env d x).1]) (acc++[(chkG env d x).1]) l (fun y hy=>hok y (List.mem_cons_of_mem _ hy)) hl (by rw [e2];simp) hm hp
          refine ⟨c1++c2,(chkG env d x).1::kk,by rw [f0];simp,by simp [f1],by rw [f2,e1,List.append_assoc],by rw [f3];simp;omega,?_⟩
          have:=r1.app r2
          simpa using this
        · cases hl
    have hc':(match chkL (chkG env d) [] ks with
      | .error e=>((0:Int),e)
      | .ok l=>chkN env op nm l)=(k,0):=hc
    cases hl:chkL (chkG env d) [] ks with
    | error e =>
      rw [hl] at hc'
      cases hc'
      exfalso
      have key:∀ (ks:List Ex) (acc:List Int),chkL (chkG env d) acc ks ≠ .error 0:=by
        intro ks
        induction ks with
        | nil=>intro acc q;cases q
        | cons x ks ih =>
          intro acc q;unfold chkL at q
          split at q
          · exact ih _ q
          · rename_i hq;injection q with q;exact hq q
      exact key _ _ hl
    | ok l =>
      rw [hl] at hc';have hcn:chkN env op nm l=(k,0):=hc';have hmn:=Int.le_trans (zfU (p.ins.map (·.nm)) p.rls op n nm (ks.foldl (fun m k=>zat (p.ins.map (·.nm)) p.rls d k m) m)) hm;have hpn:=(zdp (p.ins.map (·.nm)) p.rls op n nm (ks.foldl (fun m k=>zat (p.ins.map (·.nm)) p.rls d k m) m)).trans hp;obtain ⟨c,kk,f0,f1,f2,f3,r⟩:=fold ks m st [] l hok.2 hl hh hmn hpn;rw [List.nil_append] at f0;subst f0;have hn:=hok.1;rw [← f1] at hn;obtain ⟨g1,g2⟩:=zkH (a:=a) hE hn hcn f3 hm hp;obtain ⟨q1,_,_,_,_⟩:=zc7 (p.ins.map (·.nm)) p.rls op n nm (ks.foldl (fun m k=>zat (p.ins.map (·.nm)) p.rls d k m) m) (by have:=zcS hok.1;omega);exact ⟨c++[insN (p.ins.map (·.nm)) p.rls op n nm (ks.foldl (fun m k=>zat (p.ins.map (·.nm)) p.rls d k m) m).cells.length],by rw [q1,f2,List.append_assoc],g1,r.app g2⟩
theorem zgj {p:Pg} {env:List Sg} (hE:EnvW env p.ins p.rls):∀ (l:List Ex) (j:Nat) (m:Em),(∀ x∈l,okG 16 x∧chkG env 16 x=(1,0))→m.height=0→j+l.length=p.rls.length →
    (zaM (p.ins.map (·.nm)) p.rls l j m).most≤24→(zaM (p.ins.map (·.nm)) p.rls l j m).cells <+: p.cells →
    ∃ c,(zaM (p.ins.map (·.nm)) p.rls l j m).code=m.code++c∧VRun p c ⟨[],j,m.cells.length⟩ m.most ⟨[],p.rls.length,(zaM (p.ins.map (·.nm)) p.rls l j m).cells.length⟩ (zaM (p.ins.map (·.nm)) p.rls l j m).most
  | [],j,m,_,hh,hj,_,_=>⟨[],by simp [zaM],by
      have:j=p.rls.length:=by simpa using hj
      subst this;exact VRun.nil⟩
  | x::l,j,m,hx,hh,hj,hm,hp=>by
    have hres:zaM (p.ins.map (·.nm)) p.rls (x::l) j m=zaM (p.ins.map (·.nm)) p.rls l ((j+1:Nat):Int) (addE (zat (p.ins.map (·.nm)) p.rls 16 x m) 32 j):=by
      show zaM _ _ l ((j:Int)+1) _=_
      rw [Int.natCast_add]
      rfl
    rw [hres] at hm hp ⊢;have hmm:=zdw (p.ins.map (·.nm)) p.rls l ((j+1:Nat):Int) (addE (zat (p.ins.map (·.nm)) p.rls 16 x m) 32 j);have hx1:=hx x (List.mem_cons_self ..);obtain ⟨c1,e1,e2,r1⟩:=zhr hE 16 x m [] j 1 hx1.1 hx1.2 hh (Int.le_trans (zb8 _ 32 j) (Int.le_trans hmm.1 hm)) (List.IsPrefix.trans hmm.2 hp);have hjl:j<p.rls.length:=by simp at hj;omega
    have r2:=VRun.one (a:=(zat (p.ins.map (·.nm)) p.rls 16 x m).most) (zgF (p:=p) (b:=(zat (p.ins.map (·.nm)) p.rls 16 x m).cells.length) hjl);have ho:opnP 32=1:=by decide
    have hm1:(1:Int)≤(zat (p.ins.map (·.nm)) p.rls 16 x m).most:=by
      obtain ⟨op,n,nm,ks⟩:=x;have hq:=zc7 (p.ins.map (·.nm)) p.rls op n nm (ks.foldl (fun m k=>zat (p.ins.map (·.nm)) p.rls 15 k m) m) (by have:=zcS hx1.1.1;omega);have hr:zat (p.ins.map (·.nm)) p.rls 16 (.mk op n nm ks) m=za8 (p.ins.map (·.nm)) p.rls op n nm (ks.foldl (fun m k=>zat (p.ins.map (·.nm)) p.rls 15 k m) m):=rfl;rw [hr] at e2 ⊢;have q2:=hq.2.1;have q3:=hq.2.2.1;simp only [List.length_nil] at e2;omega
    have hmo:(addE (zat (p.ins.map (·.nm)) p.rls 16 x m) 32 j).most=max (zat (p.ins.map (·.nm)) p.rls 16 x m).most (([]:List Int).length:Int):=by
      unfold addE;simp only [ho,e2,List.length_nil];simp
    have hhe:(addE (zat (p.ins.map (·.nm)) p.rls 16 x m) 32 j).height=0:=by
      unfold addE;simp only [ho,e2,List.length_nil];simp
    obtain ⟨c3,e3,r3⟩:=zgj hE l (j+1) (addE (zat (p.ins.map (·.nm)) p.rls 16 x m) 32 j) (fun y hy=>hx y (List.mem_cons_of_mem _ hy)) hhe (by simp at hj;omega) hm hp;rw [hmo] at r3;refine ⟨c1++[⟨32,(j:Int)⟩]++c3,?_,(r1.app r2).app r3⟩
    rw [e3]
    show ((zat (p.ins.map (·.nm)) p.rls 16 x m).code++[⟨32,(j:Int)⟩])++c3=_
    rw [e1];simp
theorem zgu {pre:List Sg} {nm:List UInt8} (h:zay pre nm=none):nm ∉ pre.map (·.nm):=by
  intro hm;obtain ⟨s,hs,rfl⟩:=List.mem_map.1 hm;unfold zay at h;rw [Option.map_eq_none_iff,List.find?_eq_none] at h;have:=h s hs;simp at this
theorem zcE:∀ (l pre:List Sg),zco pre l=true→zb7 (pre.map (·.nm)) (l.map (·.nm))=false∧(l.map (·.nm)).all zbj=true∧l.all zfN=true
  | [],pre,_=>⟨rfl,rfl,rfl⟩
  | s::l,pre,h=>by
    unfold zco at h;simp only [Bool.and_eq_true,Option.isNone_iff_eq_none] at h;obtain ⟨h1,h2,h3⟩:=zcE l (pre++[s]) h.2.2;unfold sgB at h;simp only [Bool.and_eq_true,Bool.or_eq_true,decide_eq_true_eq] at h;rw [List.map_append,List.map_singleton] at h1;refine ⟨?_,?_,?_⟩
    · rw [List.map_cons]
      unfold zb7
      rw [h1,Bool.or_false,decide_eq_false_iff_not]
      exact zgu h.2.1
    · rw [List.map_cons,List.all_cons,h2,h.1.1];rfl
    · rw [List.all_cons,h3];unfold zfN;simp [h.1.2]
theorem hdr_ok {rs:List Rl} {ins env:List Sg} (h:RulOk rs ins env) {cells:List Cl} {code:List Ins} (h1:cells.length≤64) (h2:code.length≤600):hdrP ⟨ins,rs.map (·.nm),cells,code⟩=0:=by
  obtain ⟨a1,a2,-⟩:=zcE env [] h.good;obtain ⟨-,-,b3⟩:=zcE ins [] h.good0
  have hn:zas ⟨ins,rs.map (·.nm),cells,code⟩=env.map (·.nm):=by
    rw [h.all];unfold zas;simp [Function.comp_def]
  have hf:=h.few;unfold hdrP;rw [hn];rw [if_neg (by simp only [List.length_map];omega),if_neg (by rw [a2];decide),if_neg (by rw [show zb7 [] (env.map (·.nm))=false from a1];decide),if_neg (by rw [b3];decide)]
theorem RulOk.ok {rs:List Rl} {ins env:List Sg} (h:RulOk rs ins env) (hv:∀ t:List UInt8,(zaw t).2.2=0→zaR (zaw t).1=true):∀ x∈(rulP rs ins).1,okG 16 x∧chkG env 16 x=(1,0):=by
  intro x hx;refine ⟨?_,h.kind x hx⟩
  rw [h.list] at hx;obtain ⟨r,hr,rfl⟩:=List.mem_map.1 hx;have:=hv _ (h.parse r hr);unfold zaR at this;obtain ⟨l,hl⟩:=Option.isSome_iff_exists.1 this;exact zl2 hl
structure CmpOk (rs:List Rl) (ins:List Sg) (p:Pg) (env:List Sg):Prop where
  rul:RulOk rs ins env
  rul0:(rulP rs ins).2.2=0
  pins:p.ins=ins
  prls:p.rls=rs.map (·.nm)
  pcode:p.code=(emP rs ins (rulP rs ins).1).code
  pcells:p.cells=(emP rs ins (rulP rs ins).1).cells
  few:p.code.length≤600∧p.cells.length≤64∧(emP rs ins (rulP rs ins).1).most≤24
theorem cmp_ok {rs:List Rl} {ins:List Sg} (h:(zcm rs ins).2.2=0):∃ env,CmpOk rs ins ⟨ins,rs.map (·.nm),(zcm rs ins).1.2,(zcm rs ins).1.1⟩ env∧(zcm rs ins).2=(0,0):=by
  unfold zcm at h ⊢
  by_cases h1:(rulP rs ins).2.2=0
  · rw [if_neg (by simpa using h1)] at h ⊢
    by_cases h2:600<(emP rs ins (rulP rs ins).1).code.length∨64<(emP rs ins (rulP rs ins).1).cells.length∨24<(emP rs ins (rulP rs ins).1).most
    · rw [if_pos h2] at h
      exact absurd h (show ¬ (4:Int)=0 by decide)
    · rw [if_neg h2]
      obtain ⟨env,he⟩:=zhh h1
      exact ⟨env,⟨he,h1,rfl,rfl,rfl,rfl,⟨by dsimp only;omega,by dsimp only;omega,by omega⟩⟩,rfl⟩
  · rw [if_pos h1] at h
    exact absurd h h1
theorem zfv {rs:List Rl} {ins env:List Sg} {p:Pg} (h:CmpOk rs ins p env) (hv:∀ t:List UInt8,(zaw t).2.2=0→zaR (zaw t).1=true):verP p=(0,(emP rs ins (rulP rs ins).1).most,0):=by
  have hh:hdrP p=0:=by
    have:=hdr_ok h.rul (cells:=p.cells) (code:=p.code) h.few.2.1 h.few.1;rw [← h.prls] at this;have e:p=⟨ins,p.rls,p.cells,p.code⟩:=by cases p;simp only [Pg.mk.injEq];exact ⟨h.pins,trivial,trivial,trivial⟩
    rw [← e] at this;exact this
  have hE:=h.rul.envW;rw [← h.prls,← h.pins] at hE;have hem:emP rs ins (rulP rs ins).1=zaM (p.ins.map (·.nm)) p.rls (rulP rs ins).1 (0:Nat) ⟨[],[],0,0⟩:=by rw [h.pins,h.prls];rfl
  have hf:=h.few;have hc:=h.pcode;have hcl:=h.pcells;rw [hem] at hf hc hcl ⊢;obtain ⟨c,e1,r⟩:=zgj hE (rulP rs ins).1 0 ⟨[],[],0,0⟩ (h.rul.ok hv) rfl (by rw [h.rul.list,h.prls];simp) hf.2.2 (by rw [← hcl];exact List.prefix_refl _);unfold verP;rw [if_neg (by simpa using hh),hc,e1];have:=r [] 0;simp only [List.append_nil,List.nil_append,List.length_nil] at this ⊢;rw [this,zdV,if_neg (by simp),if_neg (by dsimp only;rw [hcl];omega)]
end Go.Proofs.YtcikenlflcofbaaGreatDoor
namespace Go.Proofs.YtcikenlflcofbaaGreatDoor
end Go.Proofs.YtcikenlflcofbaaGreatDoor
namespace Go.Proofs.YtcikenlflcofbaaGreatDoor
structure Cs where
  on:Bool
  n:Int
structure Mm where
  vals:List Int
  cells:List Cs
structure Xs where
  st:List Int
  vals:List Int
  cells:List Cs
def limP (v:Int):Int:=max (-1000000000) (min v 1000000000)
def bitP (b:Bool):Int:=if b then 1 else 0
def zau (op:Int) (l:List Int):Int:=
  if op=4 then 1-l.getD 0 0
  else if op=5 then l.getD 0 0*l.getD 1 0
  else if op=6 then max (l.getD 0 0) (l.getD 1 0)
  else if op=7 then bitP (decide (l.getD 0 0≠l.getD 1 0))
  else if op=8 then bitP (decide (l.getD 0 0<l.getD 1 0))
  else if op=9 then bitP (decide (l.getD 1 0<l.getD 0 0))
  else if op=10 then bitP (decide (l.getD 0 0=l.getD 1 0))
  else if op=11 then limP (l.getD 0 0+l.getD 1 0)
  else if op=12 then limP (l.getD 0 0-l.getD 1 0)
  else if op=13 then min (l.getD 0 0) (l.getD 1 0)
  else if op=14 then max (l.getD 0 0) (l.getD 1 0)
  else if op=15 then max (l.getD 0 0) (-l.getD 0 0)
  else if l.getD 0 0=1 then l.getD 1 0 else l.getD 2 0
def zbq (op n:Int) (c:Cs) (a b:Bool):Int × Cs:=
  if op=17 then (bitP (a && !c.on),⟨a,c.n⟩)
  else if op=18 then (bitP (!a && c.on),⟨a,c.n⟩)
  else if op=19 then (if a then (bitP (decide (n<min (c.n+1) (n+1))),⟨c.on,min (c.n+1) (n+1)⟩) else (0,⟨c.on,0⟩))
  else if op=20 then (bitP (a || decide (0<c.n)),⟨c.on,if a then n else max (c.n-1) 0⟩)
  else if op=21 then (bitP ((c.on || a) && !b),⟨(c.on || a) && !b,c.n⟩)
  else ((if b then 0 else if a && !c.on then min (c.n+1) 32767 else c.n),⟨a,if b then 0 else if a && !c.on then min (c.n+1) 32767 else c.n⟩)
def zbc (s:Xs) (c:Ins):List Int:=s.st.drop (s.st.length-(opnP c.op).toNat)
def zbG (s:Xs) (c:Ins):List Int:=s.st.take (s.st.length-(opnP c.op).toNat)
def exP (p:Pg) (inp:List Int) (s:Xs) (c:Ins):Xs:=
  if c.op=1∨c.op=2 then ⟨s.st++[c.a],s.vals,s.cells⟩
  else if c.op=30 then ⟨s.st++[limP (inp.getD c.a.toNat 0)],s.vals,s.cells⟩
  else if c.op=31 then ⟨s.st++[s.vals.getD c.a.toNat 0],s.vals,s.cells⟩
  else if c.op=32 then ⟨zbG s c,s.vals.set c.a.toNat ((zbc s c).getD 0 0),s.cells⟩
  else if zaG c.op then
    ⟨zbG s c++[(zbq c.op (p.cells.getD c.a.toNat ⟨0,0⟩).n (s.cells.getD c.a.toNat ⟨false,0⟩) (decide ((zbc s c).getD 0 0=1)) (decide ((zbc s c).getD 1 0=1))).1],s.vals,
      s.cells.set c.a.toNat (zbq c.op (p.cells.getD c.a.toNat ⟨0,0⟩).n (s.cells.getD c.a.toNat ⟨false,0⟩) (decide ((zbc s c).getD 0 0=1)) (decide ((zbc s c).getD 1 0=1))).2⟩
  else ⟨zbG s c++[zau c.op (zbc s c)],s.vals,s.cells⟩
def zem (p:Pg) (m:Mm) (inp:List Int):Mm:=⟨(p.code.foldl (exP p inp) ⟨[],m.vals,m.cells⟩).vals,(p.code.foldl (exP p inp) ⟨[],m.vals,m.cells⟩).cells⟩
def capP (c:Cl):Int:=if c.op=19 then c.n+1 else if c.op=20 then c.n else if c.op=22 then 32767 else 0
def zf1 (c:Cl) (s:Cs):Bool := !(s.on && zbU c.op) && decide (0≤s.n∧s.n≤capP c)
def bitB (v:Int):Bool:=decide (v=0∨v=1)
def zdf (p:Pg) (inp:List Int):Bool:=decide (inp.length=p.ins.length) && (p.ins.zip inp).all fun x => !decide (x.1.kind=1) || bitB x.2
def newP (p:Pg):Mm:=⟨List.replicate p.rls.length 0,List.replicate p.cells.length ⟨false,0⟩⟩
def runL (p:Pg):List (List Int)→Mm→List (List Int)→List (List Int) × Int
  | [],_,l=>(l,0)
  | x::xs,m,l=>if zdf p x=false then ([],1) else runL p xs (zem p m x) (l++[(zem p m x).vals])
def runS (p:Pg) (xs:List (List Int)):List (List Int) × Int:=if (verP p).2.2≠0 then ([],1) else runL p xs (newP p) []
def okV (k v:Int):Prop:=(k=1→v=0∨v=1) ∧ -1000000000≤v∧v≤1000000000
def TyL (ks xs:List Int):Prop:=xs.length=ks.length∧∀ (i:Nat) (k x:Int),ks[i]? = some k→xs[i]? = some x→okV k x
structure StOk (p:Pg) (v:Vs) (s:Xs):Prop where
  ty:TyL v.st s.st
  vl:s.vals.length=p.rls.length
  vb:∀ x∈s.vals,x=0∨x=1
  cl:s.cells.length=p.cells.length
  cb:∀ (i:Nat) (l:Cl) (c:Cs),p.cells[i]? = some l→s.cells[i]? = some c→zf1 l c=true
def zeO (p:Pg) (inp:List Int):Prop:=inp.length=p.ins.length∧(∀ (i:Nat) (s:Sg) (x:Int),p.ins[i]? = some s→inp[i]? = some x→s.kind=1→x=0∨x=1)
theorem ze1 (k v:Int) (h:k=1→v=0∨v=1):okV k (limP v):=by
  unfold okV limP;refine ⟨fun e => ?_,by omega,by omega⟩
  rcases h e with rfl | rfl <;> decide
theorem zb9 (k:Int) (b:Bool):okV k (bitP b):=by
  unfold okV bitP
  cases b <;> simp
theorem zbM {v:Int} (h:v=0∨v=1) (k:Int):okV k v:=⟨fun _=>h,by omega,by omega⟩
theorem zgY {α:Type} {P:α→Prop} {l:List α} (h:∀ x∈l,P x) {i:Nat} (hi:i<l.length) (d:α):P (l.getD i d):=by
  rw [List.getD_eq_getElem?_getD,List.getElem?_eq_getElem hi];exact h _ (List.getElem_mem hi)
theorem zbK {c:Cl} {s:Cs}:zf1 c s=true↔(zbU c.op=true→s.on=false)∧0≤s.n∧s.n≤capP c:=by
  unfold zf1
  cases s.on <;> cases zbU c.op <;> simp
theorem zit {l:Cl} {c:Cs} {a b:Bool} (h17:17≤l.op∧l.op≤22) (hn:0≤l.n∧l.n≤500) (h:zf1 l c=true):okV (sigP l.op).2 (zbq l.op l.n c a b).1∧zf1 l (zbq l.op l.n c a b).2=true:=by
  rw [zbK] at h ⊢;obtain ⟨op,n⟩:=l;obtain ⟨on,z⟩:=c;dsimp only at *;obtain ⟨h1,h2,h3⟩:=h;have hop:op=17∨op=18∨op=19∨op=20∨op=21∨op=22:=by omega
  rcases hop with rfl | rfl | rfl | rfl | rfl | rfl
  · exact ⟨zb9 _ _,fun q=>absurd q (by decide),h2,h3⟩
  · exact ⟨zb9 _ _,fun q=>absurd q (by decide),h2,h3⟩
  · have e:capP ⟨19,n⟩=n+1:=rfl
    rw [e] at h3 ⊢
    unfold zbq
    simp only
    rw [if_neg (by decide),if_neg (by decide),if_pos trivial]
    cases a with
    | true=>exact ⟨zb9 _ _,h1,by simp only [if_true];omega,by simp only [if_true];omega⟩
    | false=>exact ⟨zbM (.inl rfl) _,h1,Int.le_refl _,by simp;omega⟩
  · have e:capP ⟨20,n⟩=n:=rfl
    rw [e] at h3 ⊢
    unfold zbq
    simp only
    rw [if_neg (by decide),if_neg (by decide),if_neg (by decide),if_pos trivial]
    refine ⟨zb9 _ _,h1,?_⟩
    cases a
    · simp;omega
    · simp;omega
  · exact ⟨zb9 _ _,fun q=>absurd q (by decide),h2,h3⟩
  · have e:capP ⟨22,n⟩=32767:=rfl
    rw [e] at h3 ⊢
    unfold zbq
    simp only
    rw [if_neg (by decide),if_neg (by decide),if_neg (by decide),if_neg (by decide),if_neg (by decide)]
    have hz:0≤(if b=true then (0:Int) else if (a && !on)=true then min (z+1) 32767 else z)∧(if b=true then (0:Int) else if (a && !on)=true then min (z+1) 32767 else z)≤32767:=by
      split
      · omega
      split
      · omega
      · omega
    refine ⟨⟨fun q=>absurd q (by decide),by omega,by omega⟩,fun q=>absurd q (by decide),hz⟩
theorem TyL.nil:TyL [] []:=⟨rfl,fun i k x h=>by simp at h⟩
theorem TyL.take {ks xs:List Int} (h:TyL ks xs) (n:Nat):TyL (ks.take n) (xs.take n):=by
  refine ⟨by rw [List.length_take,List.length_take,h.1],fun i k x hk hx => ?_⟩
  rw [List.getElem?_take] at hk hx
  split at hk
  · rename_i hlt
    rw [if_pos hlt] at hx
    exact h.2 i k x hk hx
  · cases hk
theorem TyL.drop {ks xs:List Int} (h:TyL ks xs) (n:Nat):TyL (ks.drop n) (xs.drop n):=by
  refine ⟨by rw [List.length_drop,List.length_drop,h.1],fun i k x hk hx => ?_⟩
  rw [List.getElem?_drop] at hk hx;exact h.2 _ k x hk hx
theorem TyL.snoc {ks xs:List Int} {k x:Int} (h:TyL ks xs) (hk:okV k x):TyL (ks++[k]) (xs++[x]):=by
  refine ⟨by rw [List.length_append,List.length_append,h.1];rfl,fun i k' x' h1 h2 => ?_⟩
  rcases Nat.lt_or_ge i ks.length with hi | hi
  · rw [List.getElem?_append_left hi] at h1
    rw [List.getElem?_append_left (by rw [h.1];exact hi)] at h2
    exact h.2 i _ _ h1 h2
  · rw [List.getElem?_append_right hi] at h1
    rw [List.getElem?_append_right (by rw [h.1];exact hi),h.1] at h2
    have h0:i-ks.length=0:=by
      have:=(List.getElem?_eq_some_iff.1 h1).1
      simpa using this
    rw [h0] at h1 h2
    cases h1
    cases h2
    exact hk
theorem TyL.head {ks xs:List Int} {k x:Int} (h:TyL (k::ks) (x::xs)):okV k x∧TyL ks xs:=
  ⟨h.2 0 k x rfl rfl,⟨by have:=h.1;simpa using this,fun i k' x' h1 h2=>h.2 (i+1) k' x' h1 h2⟩⟩
theorem zcs {l:List Int} (h:l.length=1):∃ a,l=[a]:=by
  match l,h with
  | [a],_=>exact ⟨a,rfl⟩
theorem zeZ {l:List Int} (h:l.length=2):∃ a b,l=[a,b]:=by
  match l,h with
  | [a,b],_=>exact ⟨a,b,rfl⟩
theorem zct {l:List Int} (h:l.length=3):∃ a b c,l=[a,b,c]:=by
  match l,h with
  | [a,b,c],_=>exact ⟨a,b,c,rfl⟩
theorem zdk {p:Pg} {v v':Vs} {c:Ins} (h:zby p v c = .ok v'):0≤opnP c.op∧argP p v.stored v.used c=true∧(opnP c.op).toNat≤v.st.length∧∃ k,kndP p c (v.st.drop (zbp v c))=some k ∧
    ((c.op=32∧zbp v c=0∧v'=⟨v.st.take (zbp v c),v.stored+1,v.used⟩)∨(c.op≠32∧zbp v c+1≤24∧v'=⟨v.st.take (zbp v c)++[k],v.stored,if zaG c.op then v.used+1 else v.used⟩)):=by
  obtain ⟨h1,h2,h3⟩:=zkC h;refine ⟨h1,h2,h3,?_⟩
  unfold zby at h;rw [if_neg (by omega),if_neg (by rw [h2];decide),if_neg (by omega)] at h
  split at h
  · cases h
  rename_i k hk;refine ⟨k,hk,?_⟩
  split at h
  · rename_i h32
    split at h
    · cases h
    · cases h
      exact .inl ⟨h32,by omega,rfl⟩
  · rename_i h32
    split at h
    · cases h
    · cases h
      exact .inr ⟨h32,by omega,rfl⟩
theorem zha {p:Pg} {c:Ins} {ks xs:List Int} {k:Int} (h4:4≤c.op∧c.op≤16) (hl:opnP c.op=ks.length) (hk:kndP p c ks=some k) (ht:TyL ks xs):okV k (zau c.op xs):=by
  obtain ⟨op,a⟩:=c;dsimp only at *
  by_cases h16:op=16
  · subst h16
    obtain ⟨k0,k1,k2,rfl⟩:=zct (l:=ks) (by
      have:opnP 16=3:=by decide
      omega)
    obtain ⟨x0,x1,x2,rfl⟩:=zct (l:=xs) (by rw [ht.1];rfl)
    obtain ⟨a0,ht⟩:=ht.head
    obtain ⟨a1,ht⟩:=ht.head
    obtain ⟨a2,ht⟩:=ht.head
    unfold kndP at hk
    simp only [if_true,List.getD_cons_zero,List.getD_cons_succ] at hk
    split at hk
    · rename_i hq
      cases hk
      have:zau 16 [x0,x1,x2]=if x0=1 then x1 else x2:=rfl
      rw [this]
      split
      · exact a1
      · rw [hq.2];exact a2
    · cases hk
  · have hq:(ks.all fun z=>decide (z=(sigP op).1))=true∧k=(sigP op).2:=by
      unfold kndP at hk;dsimp only at hk;rw [if_neg h16] at hk
      split at hk
      · rename_i hq
        rw [if_neg (by omega)] at hk
        cases hk
        exact ⟨hq,rfl⟩
      · cases hk
    obtain ⟨hq,rfl⟩:=hq;have hop:(op=4∨op=15)∨(op=5∨op=6∨op=7∨op=8∨op=9∨op=10∨op=11∨op=12∨op=13∨op=14):=by omega
    rcases hop with hop | hop
    · obtain ⟨k0,rfl⟩:=zcs (l:=ks) (by
        have:opnP op=1:=by rcases hop with rfl | rfl <;> decide
        omega)
      obtain ⟨x0,rfl⟩:=zcs (l:=xs) (by rw [ht.1];rfl);obtain ⟨a0,ht⟩:=ht.head;simp only [List.all_cons,List.all_nil,Bool.and_true,decide_eq_true_eq] at hq;subst hq
      rcases hop with rfl | rfl
      · have e:zau 4 [x0]=1-x0:=rfl
        rw [e]
        rcases a0.1 rfl with rfl | rfl <;> exact zbM (by decide) _
      · have e:zau 15 [x0]=max x0 (-x0):=rfl
        rw [e]
        have:=a0.2
        exact ⟨fun q=>absurd q (by decide),by omega,by omega⟩
    · obtain ⟨k0,k1,rfl⟩:=zeZ (l:=ks) (by
        have:opnP op=2:=by rcases hop with rfl | rfl | rfl | rfl | rfl | rfl | rfl | rfl | rfl | rfl <;> decide
        omega)
      obtain ⟨x0,x1,rfl⟩:=zeZ (l:=xs) (by rw [ht.1];rfl);obtain ⟨a0,ht⟩:=ht.head;obtain ⟨a1,ht⟩:=ht.head;simp only [List.all_cons,List.all_nil,Bool.and_true,Bool.and_eq_true,decide_eq_true_eq] at hq;obtain ⟨rfl,rfl⟩:=hq;have b0:=a0.2;have b1:=a1.2
      rcases hop with rfl | rfl | rfl | rfl | rfl | rfl | rfl | rfl | rfl | rfl
      · have e:zau 5 [x0,x1]=x0*x1:=rfl
        rw [e]
        rcases a0.1 rfl with rfl | rfl <;> rcases a1.1 rfl with rfl | rfl <;> exact zbM (by decide) _
      · have e:zau 6 [x0,x1]=max x0 x1:=rfl
        rw [e]
        rcases a0.1 rfl with rfl | rfl <;> rcases a1.1 rfl with rfl | rfl <;> exact zbM (by decide) _
      · exact zb9 _ _
      · exact zb9 _ _
      · exact zb9 _ _
      · exact zb9 _ _
      · exact ze1 _ _ fun q=>absurd q (by decide)
      · exact ze1 _ _ fun q=>absurd q (by decide)
      · have e:zau 13 [x0,x1]=min x0 x1:=rfl
        rw [e]
        exact ⟨fun q=>absurd q (by decide),by omega,by omega⟩
      · have e:zau 14 [x0,x1]=max x0 x1:=rfl
        rw [e]
        exact ⟨fun q=>absurd q (by decide),by omega,by omega⟩
structure InsOk (p:Pg) (v:Vs) (s:Xs) (c:Ins):Prop where
  num:c.op=1∨c.op=2→0≤c.a∧c.a≤32767
  inp:c.op=30→0≤c.a∧c.a<p.ins.length
  rul:c.op=31∨c.op=32→0≤c.a∧c.a<p.rls.length
  cel:zaG c.op=true→∃ (u:Nat) (l:Cl) (t:Cs),c.a=(u:Int)∧p.cells[u]? = some l∧s.cells[u]? = some t∧l.op=c.op∧0≤l.n∧l.n≤500∧zf1 l t=true
  opn:0≤opnP c.op
  len:(opnP c.op).toNat≤s.st.length
  args:TyL (v.st.drop (zbp v c)) (zbc s c)
  rest:TyL (v.st.take (zbp v c)) (zbG s c)
  alen:(zbc s c).length=(opnP c.op).toNat
theorem ziI {p:Pg} {v v':Vs} {s:Xs} {c:Ins} (h:zby p v c = .ok v') (hs:StOk p v s):InsOk p v s c:=by
  obtain ⟨h1,h2,h3,-⟩:=zdk h;have hlen:=hs.ty.1;have hr:zbp v c=s.st.length-(opnP c.op).toNat:=by unfold zbp;rw [hlen]
  refine ⟨fun q => ?_,fun q => ?_,fun q => ?_,fun q => ?_,h1,by omega,by rw [hr];exact hs.ty.drop _,by rw [hr];exact hs.ty.take _,by unfold zbc;rw [List.length_drop];omega⟩
  · unfold argP at h2
    rcases q with q | q
    · rw [if_pos q] at h2;simp only [decide_eq_true_eq] at h2;omega
    · rw [if_neg (by omega),if_pos q] at h2;simpa using h2
  · unfold argP at h2
    rw [if_neg (by omega),if_neg (by omega),if_pos q] at h2
    simpa using h2
  · unfold argP at h2
    rcases q with q | q
    · rw [if_neg (by omega),if_neg (by omega),if_neg (by omega),if_pos q] at h2;simpa using h2
    · rw [if_neg (by omega),if_neg (by omega),if_neg (by omega),if_neg (by omega),if_pos q] at h2
      simp only [decide_eq_true_eq] at h2
      omega
  · have hk17:17≤c.op∧c.op≤22:=by unfold zaG at q;simpa using q
    unfold argP at h2
    rw [if_neg (by omega),if_neg (by omega),if_neg (by omega),if_neg (by omega),if_neg (by omega),if_neg (by rw [q];decide)] at h2
    simp only [Bool.and_eq_true,decide_eq_true_eq] at h2
    obtain ⟨ha,hm⟩:=h2
    cases hl:p.cells[v.used]? with
    | none=>rw [hl] at hm;cases hm
    | some l =>
      rw [hl] at hm
      have hm':zgn c l=true:=hm
      unfold zgn at hm'
      simp only [decide_eq_true_eq] at hm'
      have hu:=(List.getElem?_eq_some_iff.1 hl).1
      have hsu:v.used<s.cells.length:=by rw [hs.cl];exact hu
      refine ⟨v.used,l,s.cells[v.used],ha,hl,List.getElem?_eq_getElem hsu,hm'.1,hm'.2.1,?_,hs.cb _ _ _ hl (List.getElem?_eq_getElem hsu)⟩
      have:=hm'.2.2
      split at this <;> omega
theorem ex_ok {p:Pg} {inp:List Int} {v v':Vs} {s:Xs} {c:Ins} (hi:zeO p inp) (h:zby p v c = .ok v') (hs:StOk p v s):StOk p v' (exP p inp s c):=by
  have hI:=ziI h hs;obtain ⟨h1,h2,h3,k,hk,hv⟩:=zdk h;have hdl:(v.st.drop (zbp v c)).length=(opnP c.op).toNat:=by rw [List.length_drop];unfold zbp;omega
  rcases hv with ⟨h32,h0,rfl⟩ | ⟨h32,h24,rfl⟩
  · have hx:exP p inp s c=⟨zbG s c,s.vals.set c.a.toNat ((zbc s c).getD 0 0),s.cells⟩:=by unfold exP;rw [if_neg (by omega),if_neg (by omega),if_neg (by omega),if_pos h32]
    rw [hx]
    refine ⟨hI.rest,by rw [List.length_set];exact hs.vl,fun x hm => ?_,hs.cl,hs.cb⟩
    rcases List.mem_or_eq_of_mem_set hm with q | q
    · exact hs.vb x q
    · have ho:opnP c.op=1:=by rw [h32];decide
      have hsg:sigP c.op=(1,1):=by rw [h32];decide
      obtain ⟨k0,e0⟩:=zcs (l:=v.st.drop (zbp v c)) (by rw [hdl,ho];rfl)
      obtain ⟨x0,e1⟩:=zcs (l:=zbc s c) (by rw [hI.alen,ho];rfl)
      have ht:=hI.args
      rw [e0,e1] at ht
      rw [e0] at hk
      unfold kndP at hk
      rw [if_neg (by omega),hsg] at hk
      split at hk
      · rename_i hq
        simp only [List.all_cons,List.all_nil,Bool.and_true,decide_eq_true_eq] at hq
        subst hq
        rw [q,e1]
        exact ht.head.1.1 rfl
      · cases hk
  · by_cases h12:c.op=1∨c.op=2
    · have hx:exP p inp s c=⟨s.st++[c.a],s.vals,s.cells⟩:=by unfold exP;rw [if_pos h12]
      have ho:opnP c.op=0:=by rcases h12 with e | e <;> rw [e] <;> decide
      have hr:zbp v c=v.st.length:=by unfold zbp;rw [ho];rfl
      have ha:=hI.num h12
      rw [hx,hr,List.take_length]
      refine ⟨hs.ty.snoc ⟨fun q => ?_,by omega,by omega⟩,hs.vl,hs.vb,hs.cl,hs.cb⟩
      rcases h12 with e | e
      · unfold argP at h2
        rw [if_pos e] at h2
        simpa using h2
      · rw [hr,List.drop_length] at hk
        unfold kndP at hk
        rw [if_neg (by omega),e] at hk
        simp [sigP] at hk
        omega
    by_cases h30:c.op=30
    · have hx:exP p inp s c=⟨s.st++[limP (inp.getD c.a.toNat 0)],s.vals,s.cells⟩:=by unfold exP;rw [if_neg h12,if_pos h30]
      have ho:opnP c.op=0:=by rw [h30];decide
      have hr:zbp v c=v.st.length:=by unfold zbp;rw [ho];rfl
      obtain ⟨ha,hb⟩:=hI.inp h30
      rw [hx,hr,List.take_length]
      refine ⟨hs.ty.snoc (ze1 _ _ fun q => ?_),hs.vl,hs.vb,hs.cl,hs.cb⟩
      rw [hr,List.drop_length] at hk
      unfold kndP at hk
      rw [if_neg (by omega),if_pos (by rfl),if_pos h30] at hk
      cases hk
      have hlt:c.a.toNat<p.ins.length:=by omega
      have hlt2:c.a.toNat<inp.length:=by rw [hi.1];exact hlt
      rw [List.getD_eq_getElem?_getD,List.getElem?_eq_getElem hlt2]
      rw [List.getD_eq_getElem?_getD,List.getElem?_eq_getElem hlt] at q
      exact hi.2 _ _ _ (List.getElem?_eq_getElem hlt) (List.getElem?_eq_getElem hlt2) q
    by_cases h31:c.op=31
    · have hx:exP p inp s c=⟨s.st++[s.vals.getD c.a.toNat 0],s.vals,s.cells⟩:=by unfold exP;rw [if_neg h12,if_neg h30,if_pos h31]
      have ho:opnP c.op=0:=by rw [h31];decide
      have hr:zbp v c=v.st.length:=by unfold zbp;rw [ho];rfl
      obtain ⟨ha,hb⟩:=hI.rul (.inl h31)
      rw [hx,hr,List.take_length]
      exact ⟨hs.ty.snoc (zbM (zgY (P:=fun x=>x=0∨x=1) hs.vb (by rw [hs.vl];omega) 0) _),hs.vl,hs.vb,hs.cl,hs.cb⟩
    cases hkb:zaG c.op with
    | true =>
      have hk17:17≤c.op∧c.op≤22:=by unfold zaG at hkb;simpa using hkb
      obtain ⟨u,l,t,e,hl,ht,hop,hn0,hn5,hp⟩:=hI.cel hkb
      have hgl:p.cells.getD c.a.toNat ⟨0,0⟩=l:=by rw [List.getD_eq_getElem?_getD,e,Int.toNat_natCast,hl];rfl
      have hgt:s.cells.getD c.a.toNat ⟨false,0⟩=t:=by rw [List.getD_eq_getElem?_getD,e,Int.toNat_natCast,ht];rfl
      have hu:=(List.getElem?_eq_some_iff.1 ht).1
      obtain ⟨k1,k2⟩:=zit (a:=decide ((zbc s c).getD 0 0=1)) (b:=decide ((zbc s c).getD 1 0=1)) (by rw [hop];exact hk17) ⟨hn0,hn5⟩ hp
      rw [hop] at k1 k2
      have hx:exP p inp s c=⟨zbG s c++[(zbq c.op l.n t (decide ((zbc s c).getD 0 0=1)) (decide ((zbc s c).getD 1 0=1))).1],s.vals,s.cells.set c.a.toNat (zbq c.op l.n t (decide ((zbc s c).getD 0 0=1)) (decide ((zbc s c).getD 1 0=1))).2⟩:=by
        unfold exP
        rw [if_neg h12,if_neg h30,if_neg h31,if_neg h32,hkb,if_pos rfl,hgl,hgt]
      rw [hx]
      have hkk:k=(sigP c.op).2:=by
        unfold kndP at hk
        rw [if_neg (by omega)] at hk
        rw [if_neg h30] at hk
        split at hk
        · cases hk;rfl
        · cases hk
      refine ⟨hI.rest.snoc (by rw [hkk];exact k1),hs.vl,hs.vb,by rw [List.length_set];exact hs.cl,fun i l' c' h1 h2 => ?_⟩
      rw [e,Int.toNat_natCast] at h2
      by_cases hiu:u=i
      · subst hiu
        rw [List.getElem?_set_self hu] at h2
        cases h2
        rw [hl] at h1
        cases h1
        exact k2
      · rw [List.getElem?_set_ne hiu] at h2
        exact hs.cb i l' c' h1 h2
    | false =>
      have hx:exP p inp s c=⟨zbG s c++[zau c.op (zbc s c)],s.vals,s.cells⟩:=by
        unfold exP
        rw [if_neg h12,if_neg h30,if_neg h31,if_neg h32,hkb,if_neg (by decide)]
      rw [hx]
      have h4:4≤c.op∧c.op≤16:=by
        have hkn:¬ (17≤c.op∧c.op≤22):=by unfold zaG at hkb;simpa using hkb
        have:¬ (opnP c.op = -1):=by omega
        unfold opnP at this
        by_cases hb:5≤c.op∧c.op≤22
        · omega
        · rw [if_neg (by omega)] at this
          split at this
          · omega
          · split at this
            · omega
            · exact absurd rfl this
      exact ⟨hI.rest.snoc (zha h4 (by rw [hdl];omega) hk hI.args),hs.vl,hs.vb,hs.cl,hs.cb⟩
end Go.Proofs.YtcikenlflcofbaaGreatDoor
namespace Go.Proofs.YtcikenlflcofbaaGreatDoor
theorem zjU {env:List Sg} {d:Nat} {op n:Int} {nm:List UInt8} {ks:List Ex} {k:Int} (h:chkG env (d+1) (.mk op n nm ks)=(k,0)):∃ l,chkL (chkG env d) [] ks = .ok l∧chkN env op nm l=(k,0):=by
  have hc':(match chkL (chkG env d) [] ks with
      | .error e=>((0:Int),e)
      | .ok l=>chkN env op nm l)=(k,0):=h
  cases hl:chkL (chkG env d) [] ks with
  | error e =>
    rw [hl] at hc'
    cases hc'
    exfalso
    have key:∀ (ks:List Ex) (acc:List Int),chkL (chkG env d) acc ks ≠ .error 0:=by
      intro ks
      induction ks with
      | nil=>intro acc q;cases q
      | cons x ks ih =>
        intro acc q;unfold chkL at q
        split at q
        · exact ih _ q
        · rename_i hq;injection q with q;exact hq q
    exact key _ _ hl
  | ok l=>rw [hl] at hc';exact ⟨l,rfl,hc'⟩
end Go.Proofs.YtcikenlflcofbaaGreatDoor
namespace Go.Proofs.YtcikenlflcofbaaGreatDoor
def zci:List (List UInt8)→List Int→List UInt8→Int
  | [],_,_=>0
  | n::ns,vs,s=>if n=s then vs.getD 0 0 else zci ns (vs.drop 1) s
def zcL (op n:Int) (c:Cs) (a b:Bool):Int × Cs:=
  if op=17 then (bitP (a && !c.on),⟨a,0⟩)
  else if op=18 then (bitP (!a && c.on),⟨a,0⟩)
  else if op=19 then (if a then (bitP (decide (n<min (c.n+1) (n+1))),⟨false,min (c.n+1) (n+1)⟩) else (0,⟨false,0⟩))
  else if op=20 then (if a then (1,⟨false,n⟩) else (bitP (decide (0<c.n)),⟨false,max (c.n-1) 0⟩))
  else if op=21 then (bitP ((c.on || a) && !b),⟨(c.on || a) && !b,0⟩)
  else ((if b then 0 else if a && !c.on then min (c.n+1) 32767 else c.n),⟨a,if b then 0 else if a && !c.on then min (c.n+1) 32767 else c.n⟩)
structure Tv where
  v:Int
  cs:List Cs
  k:Nat
structure Kv where
  vs:List Int
  cs:List Cs
  k:Nat
def zc3 (f:Ex→List Cs→Nat→Tv):List Ex→List Int→List Cs→Nat→Kv
  | [],v,cs,k=>⟨v,cs,k⟩
  | x::xs,v,cs,k=>zc3 f xs (v++[(f x cs k).v]) (f x cs k).cs (f x cs k).k
def zbF (names:List (List UInt8)) (vals:List Int) (op n:Int) (nm:List UInt8) (r:Kv):Tv:=
  if op=1∨op=2 then ⟨n,r.cs,r.k⟩
  else if op=3 then ⟨zci names vals nm,r.cs,r.k⟩
  else if zaG op then
    ⟨(zcL op n (r.cs.getD r.k ⟨false,0⟩) (decide (r.vs.getD 0 0=1)) (decide (r.vs.length=2) && decide (r.vs.getD 1 0=1))).1,
      r.cs.set r.k (zcL op n (r.cs.getD r.k ⟨false,0⟩) (decide (r.vs.getD 0 0=1)) (decide (r.vs.length=2) && decide (r.vs.getD 1 0=1))).2,r.k+1⟩
  else ⟨zau op r.vs,r.cs,r.k⟩
def zaX (names:List (List UInt8)) (vals:List Int):Nat→Ex→List Cs→Nat→Tv
  | 0,_,cs,k=>⟨0,cs,k⟩
  | d+1,.mk op n nm ks,cs,k=>zbF names vals op n nm (zc3 (zaX names vals d) ks [] cs k)
def opOk (op:Int) (r:Kv):Prop:=(∀ x∈r.vs,-1000000000≤x∧x≤1000000000)∧(op=16→r.vs.getD 0 0=0∨r.vs.getD 0 0=1)∧(zaG op=true→r.k<r.cs.length∧0≤(r.cs.getD r.k ⟨false,0⟩).n∧(r.cs.getD r.k ⟨false,0⟩).n≤32767)
def zfM (f:Ex→List Cs→Nat→Tv) (P:Ex→List Cs→Nat→Prop):List Ex→List Cs→Nat→Prop
  | [],_,_=>True
  | x::xs,cs,k=>P x cs k∧zfM f P xs (f x cs k).cs (f x cs k).k
def zer (names:List (List UInt8)) (vals:List Int):Nat→Ex→List Cs→Nat→Prop
  | 0,_,_,_=>False
  | d+1,.mk op _ _ ks,cs,k=>zfM (zaX names vals d) (zer names vals d) ks cs k∧opOk op (zc3 (zaX names vals d) ks [] cs k)
def zck (names:List (List UInt8)) (lim:List Int):List Ex→Nat→List Int→List Cs→Nat→List Int × List Cs × Nat
  | [],_,vals,cs,k=>(vals,cs,k)
  | x::xs,i,vals,cs,k=>zck names lim xs (i+1) (vals.set i (zaX names (lim++vals) 16 x cs k).v) (zaX names (lim++vals) 16 x cs k).cs (zaX names (lim++vals) 16 x cs k).k
def zfc (names:List (List UInt8)) (lim:List Int):List Ex→Nat→List Int→List Cs→Nat→Prop
  | [],_,_,_,_=>True
  | x::xs,i,vals,cs,k=>zer names (lim++vals) 16 x cs k∧zfc names lim xs (i+1) (vals.set i (zaX names (lim++vals) 16 x cs k).v) (zaX names (lim++vals) 16 x cs k).cs (zaX names (lim++vals) 16 x cs k).k
theorem ziu {op n:Int} {c:Cs} {a b:Bool} (h17:17≤op∧op≤22) (h:zf1 ⟨op,n⟩ c=true):zcL op n c a b=zbq op n c a b:=by
  rw [zbK] at h;obtain ⟨on,z⟩:=c;dsimp only at *;obtain ⟨h1,h2,h3⟩:=h;have hop:op=17∨op=18∨op=19∨op=20∨op=21∨op=22:=by omega
  rcases hop with rfl | rfl | rfl | rfl | rfl | rfl
  · have:z=0:=by have e:capP ⟨17,n⟩=0:=rfl
                 omega
    subst this
    rfl
  · have:z=0:=by have e:capP ⟨18,n⟩=0:=rfl
                 omega
    subst this
    rfl
  · obtain rfl:on=false:=h1 rfl
    rfl
  · obtain rfl:on=false:=h1 rfl
    unfold zcL zbq
    cases a with
    | true=>simp [bitP]
    | false=>simp [bitP]
  · have:z=0:=by have e:capP ⟨21,n⟩=0:=rfl
                 omega
    subst this
    rfl
  · rfl
theorem zd3:∀ (names:List (List UInt8)) (vals:List Int) (i:Nat) (s:List UInt8),names.Pairwise (· ≠ ·)→names[i]? = some s→zci names vals s=vals.getD i 0
  | [],_,_,_,_,h=>by simp at h
  | n::ns,vals,i,s,hp,h=>by
    unfold zci
    cases i with
    | zero =>
      simp only [List.getElem?_cons_zero,Option.some.injEq] at h;rw [if_pos h]
    | succ i =>
      rw [List.getElem?_cons_succ] at h;have hne:n≠s:=(List.pairwise_cons.1 hp).1 s (List.mem_of_getElem? h);rw [if_neg hne,zd3 ns (vals.drop 1) i s (List.pairwise_cons.1 hp).2 h];simp [List.getD_eq_getElem?_getD]
def zdG (p:Pg) (cs:List Cs):Prop:=cs.length=p.cells.length∧∀ (i:Nat) (l:Cl) (c:Cs),p.cells[i]? = some l→cs[i]? = some c→zf1 l c=true
def zeP (p:Pg) (vals:List Int):Prop:=vals.length=p.rls.length∧∀ x∈vals,x=0∨x=1
theorem twoB {v:List Int} (h:v.length≤2):(decide (v.length=2) && decide (v.getD 1 0=1))=decide (v.getD 1 0=1):=by
  match v,h with
  | [],_=>rfl
  | [a],_=>rfl
  | [a,b],_=>simp
theorem zfD (inp:List Int) (i:Nat) (h:i<inp.length) (vals:List Int):(inp.map limP++vals).getD i 0=limP (inp.getD i 0):=by
  rw [List.getD_eq_getElem?_getD,List.getElem?_append_left (by simpa using h),List.getElem?_map,List.getD_eq_getElem?_getD,List.getElem?_eq_getElem h]
  rfl
theorem zfC (inp vals:List Int) (j:Nat):(inp.map limP++vals).getD (inp.length+j) 0=vals.getD j 0:=by
  rw [List.getD_eq_getElem?_getD,List.getElem?_append_right (by simp),List.getD_eq_getElem?_getD];simp
theorem ziT {p:Pg} {env:List Sg} (hE:EnvW env p.ins p.rls) (hN:(zas p).Pairwise (· ≠ ·)) {inp vals:List Int} (hi:zeO p inp) (hV:zeP p vals) {op n:Int} {nm:List UInt8} {kk:List Int} {k:Int} {m:Em} {r:Kv}
    (hn:za7 op n nm kk.length=true) (hc:chkN env op nm kk=(k,0)) (hp:(za8 (p.ins.map (·.nm)) p.rls op n nm m).cells <+: p.cells) (hC:zdG p r.cs) (hk:r.k=m.cells.length) (ht:TyL kk r.vs) (st:List Int) :
    opOk op r∧(zbF (zas p) (inp.map limP++vals) op n nm r).k=(za8 (p.ins.map (·.nm)) p.rls op n nm m).cells.length ∧
    okV k (zbF (zas p) (inp.map limP++vals) op n nm r).v∧zdG p (zbF (zas p) (inp.map limP++vals) op n nm r).cs ∧
    exP p inp ⟨st++r.vs,vals,r.cs⟩ (insN (p.ins.map (·.nm)) p.rls op n nm m.cells.length)=⟨st++[(zbF (zas p) (inp.map limP++vals) op n nm r).v],vals,(zbF (zas p) (inp.map limP++vals) op n nm r).cs⟩:=by
  obtain ⟨h1,h2,h3,h4,h5⟩:=zd8 hn;obtain ⟨c1,c2,c3,c4,c5⟩:=zc7 (p.ins.map (·.nm)) p.rls op n nm m (by omega);rw [c4] at hp ⊢
  have hall:∀ x∈r.vs,-1000000000≤x∧x≤1000000000:=by
    intro x hx;obtain ⟨j,hj⟩:=List.getElem?_of_mem hx;have hjl:=(List.getElem?_eq_some_iff.1 hj).1;rw [ht.1] at hjl;have:=ht.2 j _ x (List.getElem?_eq_getElem hjl) hj;exact this.2
  by_cases e3:op=3
  · subst e3
    have hk0:kk=[]:=List.eq_nil_of_length_eq_zero (by have:zav 3=0:=by decide
                                                      omega)
    subst hk0
    have hv0:r.vs=[]:=List.eq_nil_of_length_eq_zero ht.1
    have hkd:zay env nm=some k:=by
      unfold chkN at hc
      rw [if_pos rfl] at hc
      cases hq:zay env nm with
      | none=>rw [hq] at hc;cases hc
      | some k'=>rw [hq] at hc;cases hc;rfl
    have hkept:zaG 3=false:=by decide
    refine ⟨⟨hall,fun q=>absurd q (by decide),fun q=>by rw [hkept] at q;cases q⟩,?_⟩
    have hT:zbF (zas p) (inp.map limP++vals) 3 n nm r=⟨zci (zas p) (inp.map limP++vals) nm,r.cs,r.k⟩:=rfl
    rw [hT,hv0]
    simp only [hkept,Bool.false_eq_true,if_false,List.append_nil]
    unfold insN
    rw [if_pos rfl]
    rcases hE nm k hkd with ⟨i,hil,hpl,hat⟩ | ⟨hno,rfl,j,hj,hpl,hat⟩
    · rw [hpl]
      have hil2:i<inp.length:=by rw [hi.1];exact hil
      have hat':p.ins[i]? = some ⟨nm,k⟩:=by
        rw [List.getElem?_eq_getElem hil]
        rw [List.getD_eq_getElem?_getD,List.getElem?_eq_getElem hil] at hat
        exact congrArg some hat
      have hnm:(zas p)[i]? = some nm:=by
        unfold zas
        rw [List.getElem?_append_left (by simpa using hil),List.getElem?_map,hat']
        rfl
      rw [zd3 _ _ i nm hN hnm,zfD inp i hil2]
      refine ⟨hk,ze1 _ _ fun q => ?_,hC,?_⟩
      · rw [List.getD_eq_getElem?_getD,List.getElem?_eq_getElem hil2]
        exact hi.2 i _ _ hat' (List.getElem?_eq_getElem hil2) q
      · unfold exP
        simp only
        rw [if_neg (by decide),if_pos trivial,Int.toNat_natCast]
    · rw [hno,hpl]
      have hat':p.rls[j]? = some nm:=by
        rw [List.getElem?_eq_getElem hj]
        rw [List.getD_eq_getElem?_getD,List.getElem?_eq_getElem hj] at hat
        exact congrArg some hat
      have hnm:(zas p)[p.ins.length+j]? = some nm:=by
        unfold zas
        rw [List.getElem?_append_right (by simp)]
        simpa using hat'
      rw [zd3 _ _ _ nm hN hnm,← hi.1,zfC]
      refine ⟨hk,zbM (zgY (P:=fun x=>x=0∨x=1) hV.2 (by rw [hV.1];exact hj) 0) _,hC,?_⟩
      unfold exP
      simp only [Option.getD_some]
      rw [if_neg (by decide),if_neg (by decide),if_pos trivial,Int.toNat_natCast]
  · obtain ⟨hnm,hn0,hnm2⟩:=h5 e3
    have ho:opnP op=kk.length:=by rw [zfW h2 h3 e3,h1]
    have hlr:r.vs.length=kk.length:=ht.1
    have hargs:∀ cs z,zbc ⟨st++r.vs,vals,cs⟩ ⟨op,z⟩=r.vs:=fun cs z=>by
      unfold zbc
      simp only [List.length_append,ho,Int.toNat_natCast]
      rw [show st.length+r.vs.length-kk.length=st.length by omega,List.drop_left]
    have hrest:∀ cs z,zbG ⟨st++r.vs,vals,cs⟩ ⟨op,z⟩=st:=fun cs z=>by
      unfold zbG
      simp only [List.length_append,ho,Int.toNat_natCast]
      rw [show st.length+r.vs.length-kk.length=st.length by omega,List.take_left]
    unfold insN
    rw [if_neg e3]
    by_cases e12:op=1∨op=2
    · have hkept:zaG op=false:=by rcases e12 with rfl | rfl <;> rfl
      have hk0:kk=[]:=List.eq_nil_of_length_eq_zero (by
        have:zav op=0:=by rcases e12 with rfl | rfl <;> decide
        omega)
      subst hk0
      have hv0:r.vs=[]:=List.eq_nil_of_length_eq_zero hlr
      have hT:zbF (zas p) (inp.map limP++vals) op n nm r=⟨n,r.cs,r.k⟩:=by unfold zbF;rw [if_pos e12]
      refine ⟨⟨hall,fun q=>by omega,fun q=>by rw [hkept] at q;cases q⟩,?_⟩
      rw [if_pos e12,hT,hv0,hkept]
      refine ⟨by simpa using hk,?_,hC,?_⟩
      · show okV k n
        rcases e12 with rfl | rfl
        · have e:zcM 1=1:=by decide
          exact zbM (by omega) _
        · have e:zcM 2=32767:=by decide
          have hkk:k=2:=by
            unfold chkN at hc
            rw [if_neg (by decide),if_neg (by decide)] at hc
            cases hc
            rfl
          subst hkk
          exact ⟨fun q=>absurd q (by decide),by omega,by omega⟩
      · unfold exP
        simp only
        rw [if_pos e12,List.append_nil]
    · rw [if_neg e12]
      cases hkb:zaG op with
      | false =>
        have h4:4≤op∧op≤16:=by
          have hkn:¬ (17≤op∧op≤22):=by unfold zaG at hkb;simpa using hkb
          omega
        have hknd:kndP p ⟨op,0⟩ kk=some k:=by
          unfold chkN at hc
          rw [if_neg e3] at hc
          unfold kndP
          dsimp only
          by_cases e16:op=16
          · rw [if_pos e16] at hc ⊢
            split at hc
            · cases hc
            · rename_i hq
              cases hc
              rw [if_pos (by
                constructor
                · exact Decidable.byContradiction fun q=>hq (.inl q)
                · exact Decidable.byContradiction fun q=>hq (.inr q))]
          · rw [if_neg e16] at hc ⊢
            split at hc
            · rename_i hq
              cases hc
              rw [if_pos hq,if_neg (by omega)]
            · cases hc
        have hpo:=zha (p:=p) (c:=⟨op,0⟩) h4 ho hknd ht
        have hT:zbF (zas p) (inp.map limP++vals) op n nm r=⟨zau op r.vs,r.cs,r.k⟩:=by unfold zbF;rw [if_neg e12,if_neg e3,hkb];rfl
        refine ⟨⟨hall,fun q => ?_,fun q=>absurd (hkb.symm.trans q) Bool.false_ne_true⟩,?_⟩
        · subst q
          have hl3:kk.length=3:=by have:opnP 16=3:=by decide
                                   omega
          obtain ⟨k0,k1,k2,rfl⟩:=zct hl3
          obtain ⟨x0,x1,x2,hx⟩:=zct (l:=r.vs) (by rw [hlr];rfl)
          rw [hx] at ht ⊢
          unfold kndP at hknd
          simp only [if_true,List.getD_cons_zero,List.getD_cons_succ] at hknd
          split at hknd
          · rename_i hq
            exact ht.head.1.1 hq.1
          · cases hknd
        simp only [Bool.false_eq_true,if_false,List.append_nil]
        rw [hT]
        refine ⟨hk,hpo,hC,?_⟩
        unfold exP
        dsimp only
        rw [if_neg e12,if_neg (by omega),if_neg (by omega),if_neg (by omega),hkb,hargs,hrest]
        rfl
      | true =>
        have hk17:17≤op∧op≤22:=by unfold zaG at hkb;simpa using hkb
        rw [hkb,if_pos rfl] at hp
        obtain ⟨t,htt⟩:=hp
        have hat:p.cells[m.cells.length]? = some ⟨op,n⟩:=by rw [← htt];simp
        have hul:=(List.getElem?_eq_some_iff.1 hat).1
        have hucs:m.cells.length<r.cs.length:=by rw [hC.1];exact hul
        obtain ⟨c,hcc⟩:∃ c,r.cs[m.cells.length]? = some c:=⟨_,List.getElem?_eq_getElem hucs⟩
        have hposs:=hC.2 _ _ _ hat hcc
        have hgc:r.cs.getD m.cells.length ⟨false,0⟩=c:=by rw [List.getD_eq_getElem?_getD,hcc];rfl
        have hgl:p.cells.getD m.cells.length ⟨0,0⟩=⟨op,n⟩:=by rw [List.getD_eq_getElem?_getD,hat];rfl
        have hn5:0≤n∧n≤500:=by
          refine ⟨hn0,?_⟩
          unfold zcM at hnm2
          rw [if_neg (by omega),if_neg (by omega)] at hnm2
          split at hnm2 <;> omega
        have hl2:r.vs.length≤2:=by
          have:opnP op≤2:=by
            have hop:op=17∨op=18∨op=19∨op=20∨op=21∨op=22:=by omega
            rcases hop with rfl | rfl | rfl | rfl | rfl | rfl <;> decide
          omega
        have hcr:=fun a b=>ziu (a:=a) (b:=b) hk17 hposs
        obtain ⟨k1,k2⟩:=zit (l:=⟨op,n⟩) (c:=c) (a:=decide (r.vs.getD 0 0=1)) (b:=decide (r.vs.getD 1 0=1)) hk17 hn5 hposs
        have hkk:k=(sigP op).2:=by
          unfold chkN at hc
          rw [if_neg e3,if_neg (by omega)] at hc
          split at hc
          · cases hc;rfl
          · cases hc
        have hT:zbF (zas p) (inp.map limP++vals) op n nm r=⟨(zbq op n c (decide (r.vs.getD 0 0=1)) (decide (r.vs.getD 1 0=1))).1,r.cs.set m.cells.length (zbq op n c (decide (r.vs.getD 0 0=1)) (decide (r.vs.getD 1 0=1))).2,m.cells.length+1⟩:=by
          unfold zbF
          rw [if_neg e12,if_neg e3,hkb,if_pos rfl,hk,hgc,twoB hl2,hcr]
        have hcap:c.n≤32767:=by
          have:=(zbK.1 hposs).2.2
          unfold capP at this
          dsimp only at this
          split at this
          · omega
          split at this
          · omega
          split at this <;> omega
        refine ⟨⟨hall,fun q=>by omega,fun _=>by rw [hk,hgc];exact ⟨hucs,(zbK.1 hposs).2.1,hcap⟩⟩,?_⟩
        rw [hT]
        simp only [if_true]
        refine ⟨by simp,by rw [hkk];exact k1,⟨by rw [List.length_set];exact hC.1,fun i l' c' q1 q2 => ?_⟩,?_⟩
        · by_cases hiu:m.cells.length=i
          · subst hiu
            rw [List.getElem?_set_self hucs] at q2
            cases q2
            rw [hat] at q1
            cases q1
            exact k2
          · rw [List.getElem?_set_ne hiu] at q2
            exact hC.2 i l' c' q1 q2
        · unfold exP
          dsimp only
          rw [if_neg e12,if_neg (by omega),if_neg (by omega),if_neg (by omega),hkb,if_pos rfl,hargs,hrest,Int.toNat_natCast,hgl,hgc]
theorem zfT {p:Pg} {env:List Sg} (hE:EnvW env p.ins p.rls) (hN:(zas p).Pairwise (· ≠ ·)) {inp vals:List Int} (hi:zeO p inp) (hV:zeP p vals):∀ (d:Nat) (x:Ex) (m:Em) (cs:List Cs) (k:Int),okG d x→chkG env d x=(k,0) →
    (zat (p.ins.map (·.nm)) p.rls d x m).cells <+: p.cells→zdG p cs →
    ∃ c,(zat (p.ins.map (·.nm)) p.rls d x m).code=m.code++c∧zer (zas p) (inp.map limP++vals) d x cs m.cells.length ∧
      (zaX (zas p) (inp.map limP++vals) d x cs m.cells.length).k=(zat (p.ins.map (·.nm)) p.rls d x m).cells.length ∧
      okV k (zaX (zas p) (inp.map limP++vals) d x cs m.cells.length).v∧zdG p (zaX (zas p) (inp.map limP++vals) d x cs m.cells.length).cs ∧
      ∀ st,c.foldl (exP p inp) ⟨st,vals,cs⟩=⟨st++[(zaX (zas p) (inp.map limP++vals) d x cs m.cells.length).v],vals,(zaX (zas p) (inp.map limP++vals) d x cs m.cells.length).cs⟩
  | 0,_,_,_,_,h,_,_,_=>h.elim
  | d+1,.mk op n nm ks,m,cs,k,hok,hc,hp,hC=>by
    have hres:zat (p.ins.map (·.nm)) p.rls (d+1) (.mk op n nm ks) m=za8 (p.ins.map (·.nm)) p.rls op n nm (ks.foldl (fun m k=>zat (p.ins.map (·.nm)) p.rls d k m) m):=rfl;have hT:∀ u,zaX (zas p) (inp.map limP++vals) (d+1) (.mk op n nm ks) cs u=zbF (zas p) (inp.map limP++vals) op n nm (zc3 (zaX (zas p) (inp.map limP++vals) d) ks [] cs u):=fun _=>rfl
    rw [hres] at hp ⊢;simp only [hT]
    have fold:∀ (ks:List Ex) (m:Em) (cs:List Cs) (acc l xs:List Int),(∀ k∈ks,okG d k)→chkL (chkG env d) acc ks = .ok l→TyL acc xs →
        (ks.foldl (fun m k=>zat (p.ins.map (·.nm)) p.rls d k m) m).cells <+: p.cells→zdG p cs →
        ∃ c,(ks.foldl (fun m k=>zat (p.ins.map (·.nm)) p.rls d k m) m).code=m.code++c∧zfM (zaX (zas p) (inp.map limP++vals) d) (zer (zas p) (inp.map limP++vals) d) ks cs m.cells.length ∧
          (zc3 (zaX (zas p) (inp.map limP++vals) d) ks xs cs m.cells.length).k=(ks.foldl (fun m k=>zat (p.ins.map (·.nm)) p.rls d k m) m).cells.length ∧
          TyL l (zc3 (zaX (zas p) (inp.map limP++vals) d) ks xs cs m.cells.length).vs∧l.length=acc.length+ks.length∧zdG p (zc3 (zaX (zas p) (inp.map limP++vals) d) ks xs cs m.cells.length).cs ∧
          ∀ st,c.foldl (exP p inp) ⟨st++xs,vals,cs⟩=⟨st++(zc3 (zaX (zas p) (inp.map limP++vals) d) ks xs cs m.cells.length).vs,vals,(zc3 (zaX (zas p) (inp.map limP++vals) d) ks xs cs m.cells.length).cs⟩:=by
      intro ks
      induction ks with
      | nil =>
        intro m cs acc l xs _ hl ht hp hC
        cases hl
        exact ⟨[],by simp,trivial,rfl,ht,rfl,hC,fun st=>rfl⟩
      | cons x ks ih =>
        intro m cs acc l xs hok hl ht hp hC;unfold chkL at hl
        split at hl
        · rename_i hx0
          have hmm:=zc0 (f:=fun m k=>zat (p.ins.map (·.nm)) p.rls d k m) (fun m k=>zcY (p.ins.map (·.nm)) p.rls d k m) ks (zat (p.ins.map (·.nm)) p.rls d x m)
          rw [List.foldl_cons] at hp ⊢
          obtain ⟨c1,e1,t1,k1,o1,C1,r1⟩:=zfT hE hN hi hV d x m cs (chkG env d x).1 (hok x (List.mem_cons_self ..)) (Prod.ext rfl hx0) (hmm.2.trans hp) hC
          obtain ⟨c2,e2,t2,k2,o2,l2,C2,r2⟩:=ih (zat (p.ins.map (·.nm)) p.rls d x m) (zaX (zas p) (inp.map limP++vals) d x cs m.cells.length).cs (acc++[(chkG env d x).1]) l (xs++[(zaX (zas p) (inp.map limP++vals) d x cs m.cells.length).v]) (fun y hy=>hok y (List.mem_cons_of_mem _ hy)) hl (ht.snoc o1) hp C1
          rw [← k1] at t2 k2 o2 C2 r2
          refine ⟨c1++c2,by rw [e2,e1,List.append_assoc],⟨t1,t2⟩,k2,o2,by rw [l2];simp;omega,C2,fun st => ?_⟩
          rw [List.foldl_append,r1,List.append_assoc]
          exact r2 st
        · cases hl
    obtain ⟨l,hl,hcn⟩:=zjU hc;have hpn:=(zdp (p.ins.map (·.nm)) p.rls op n nm (ks.foldl (fun m k=>zat (p.ins.map (·.nm)) p.rls d k m) m)).trans hp;obtain ⟨c,e,t,hk,ht,hll,hC',r⟩:=fold ks m cs [] l [] hok.2 hl TyL.nil hpn hC;have hn:=hok.1;rw [show ks.length=l.length by rw [hll];simp] at hn;obtain ⟨q1,_,_,_,_⟩:=zc7 (p.ins.map (·.nm)) p.rls op n nm (ks.foldl (fun m k=>zat (p.ins.map (·.nm)) p.rls d k m) m) (by have:=zcS hok.1;omega);have g:=fun st=>ziT hE hN hi hV hn hcn hp hC' hk ht st
    refine ⟨c++[insN (p.ins.map (·.nm)) p.rls op n nm (ks.foldl (fun m k=>zat (p.ins.map (·.nm)) p.rls d k m) m).cells.length],by rw [q1,e,List.append_assoc],⟨t,(g []).1⟩,(g []).2.1,(g []).2.2.1,(g []).2.2.2.1,fun st => ?_⟩
    have:=r st;rw [List.append_nil] at this;rw [List.foldl_append,this];exact (g st).2.2.2.2
theorem zeD {p:Pg} {env:List Sg} (hE:EnvW env p.ins p.rls) (hN:(zas p).Pairwise (· ≠ ·)) {inp:List Int} (hi:zeO p inp):∀ (xs:List Ex) (j:Nat) (m:Em) (vals:List Int) (cs:List Cs),(∀ x∈xs,okG 16 x∧chkG env 16 x=(1,0)) →
    (zaM (p.ins.map (·.nm)) p.rls xs j m).cells <+: p.cells→zeP p vals→zdG p cs→j+xs.length≤p.rls.length →
    ∃ c,(zaM (p.ins.map (·.nm)) p.rls xs j m).code=m.code++c∧zfc (zas p) (inp.map limP) xs j vals cs m.cells.length ∧
      zeP p (zck (zas p) (inp.map limP) xs j vals cs m.cells.length).1∧zdG p (zck (zas p) (inp.map limP) xs j vals cs m.cells.length).2.1 ∧
      c.foldl (exP p inp) ⟨[],vals,cs⟩=⟨[],(zck (zas p) (inp.map limP) xs j vals cs m.cells.length).1,(zck (zas p) (inp.map limP) xs j vals cs m.cells.length).2.1⟩
  | [],j,m,vals,cs,_,_,hV,hC,_=>⟨[],by simp [zaM],trivial,hV,hC,rfl⟩
  | x::xs,j,m,vals,cs,hx,hp,hV,hC,hj=>by
    have hres:zaM (p.ins.map (·.nm)) p.rls (x::xs) j m=zaM (p.ins.map (·.nm)) p.rls xs ((j+1:Nat):Int) (addE (zat (p.ins.map (·.nm)) p.rls 16 x m) 32 j):=by
      show zaM _ _ xs ((j:Int)+1) _=_
      rw [Int.natCast_add]
      rfl
    rw [hres] at hp ⊢;have hmm:=zdw (p.ins.map (·.nm)) p.rls xs ((j+1:Nat):Int) (addE (zat (p.ins.map (·.nm)) p.rls 16 x m) 32 j);have hx1:=hx x (List.mem_cons_self ..);obtain ⟨c1,e1,t1,k1,o1,C1,r1⟩:=zfT hE hN hi hV 16 x m cs 1 hx1.1 hx1.2 (List.IsPrefix.trans hmm.2 hp) hC;have hcl:(addE (zat (p.ins.map (·.nm)) p.rls 16 x m) 32 j).cells.length=(zaX (zas p) (inp.map limP++vals) 16 x cs m.cells.length).k:=k1.symm;have hjl:j<p.rls.length:=by simp at hj;omega
    have hV':zeP p (vals.set j (zaX (zas p) (inp.map limP++vals) 16 x cs m.cells.length).v):=by
      refine ⟨by rw [List.length_set];exact hV.1,fun y hy => ?_⟩
      rcases List.mem_or_eq_of_mem_set hy with q | rfl
      · exact hV.2 y q
      · exact o1.1 rfl
    obtain ⟨c3,e3,t3,V3,C3,r3⟩:=zeD hE hN hi xs (j+1) (addE (zat (p.ins.map (·.nm)) p.rls 16 x m) 32 j) _ _ (fun y hy=>hx y (List.mem_cons_of_mem _ hy)) hp hV' C1 (by simp at hj;omega);rw [hcl] at t3 V3 C3 r3;refine ⟨c1++[⟨32,(j:Int)⟩]++c3,?_,⟨t1,t3⟩,V3,C3,?_⟩
    · rw [e3]
      show ((zat (p.ins.map (·.nm)) p.rls 16 x m).code++[⟨32,(j:Int)⟩])++c3=_
      rw [e1]
      simp
    · rw [List.foldl_append,List.foldl_append,r1]
      have:exP p inp ⟨[]++[(zaX (zas p) (inp.map limP++vals) 16 x cs m.cells.length).v],vals,(zaX (zas p) (inp.map limP++vals) 16 x cs m.cells.length).cs⟩ ⟨32,(j:Int)⟩=⟨[],vals.set j (zaX (zas p) (inp.map limP++vals) 16 x cs m.cells.length).v,(zaX (zas p) (inp.map limP++vals) 16 x cs m.cells.length).cs⟩:=rfl
      rw [List.foldl_cons,List.foldl_nil,this]
      exact r3
theorem ziy {rs:List Rl} {ins env:List Sg} {p:Pg} (h:CmpOk rs ins p env) (hv:∀ t:List UInt8,(zaw t).2.2=0→zaR (zaw t).1=true) {inp vals:List Int} {cs:List Cs} (hi:zeO p inp) (hV:zeP p vals) (hC:zdG p cs) :
    zfc (zas p) (inp.map limP) (rulP rs ins).1 0 vals cs 0∧zeP p (zck (zas p) (inp.map limP) (rulP rs ins).1 0 vals cs 0).1∧zdG p (zck (zas p) (inp.map limP) (rulP rs ins).1 0 vals cs 0).2.1 ∧
    zem p ⟨vals,cs⟩ inp=⟨(zck (zas p) (inp.map limP) (rulP rs ins).1 0 vals cs 0).1,(zck (zas p) (inp.map limP) (rulP rs ins).1 0 vals cs 0).2.1⟩:=by
  have hE:=h.rul.envW;rw [← h.prls,← h.pins] at hE;have hem:emP rs ins (rulP rs ins).1=zaM (p.ins.map (·.nm)) p.rls (rulP rs ins).1 (0:Nat) ⟨[],[],0,0⟩:=by rw [h.pins,h.prls];rfl
  have hN:(zas p).Pairwise (· ≠ ·):=by
    obtain ⟨a1,-,-⟩:=zcE env [] h.rul.good
    have hn:zas p=env.map (·.nm):=by
      rw [h.rul.all];unfold zas;rw [h.pins,h.prls];simp [Function.comp_def]
    rw [hn];exact ((zgf _ _).1 a1).2
  have hc:=h.pcode;have hcl:=h.pcells;rw [hem] at hc hcl;obtain ⟨c,e1,t,V,C,r⟩:=zeD hE hN hi (rulP rs ins).1 0 ⟨[],[],0,0⟩ vals cs (h.rul.ok hv) (by rw [← hcl];exact List.prefix_refl _) hV hC (by rw [h.rul.list,h.prls];simp);refine ⟨t,V,C,?_⟩
  have hcc:p.code=c:=by rw [hc,e1];rfl
  unfold zem;rw [hcc,r]
  rfl
end Go.Proofs.YtcikenlflcofbaaGreatDoor
