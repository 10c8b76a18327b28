/-
  Words for memory that the later texts of this seat share: a slice that reads as a list (nil let in), what a later world keeps of it, and the row's last step behind a call that left all old memory as it was. No program is named here.
-/
import Derived.WalkKit
import Derived.WalkSpells
import Derived.WalkLawsBesides
import Derived.ProofKit
import Derived.Lib.Hide
import Derived.Deep.QuietTactic
import Derived.BigQuiet
import Derived.Deep.Draws
import Derived.Deep.Slices
import Derived.Deep.Fields
import Derived.Deep.MidRow
import Derived.Deep.WholeRow
import Derived.Deep.AppendLies
import Derived.Deep.RegionHeld3
import Derived.Laws.OwnMore
import Derived.Laws.Rows
import Derived.Maps.AppendAt
namespace Go.Proofs.YtcikenlflcofbaaGreatDoor
open Go.RowKit
theorem Hi {p:Prop} (h:p):Hid p:=Lib.hid h
theorem zao {B:Nat} {a w:World} (h:Below B a w) (n:Nat):Below B a (w.drewN n):=⟨h.os,h.tape,h.output,h.size,h.block⟩
theorem zbs {k:IntKind} {a b:Int} (h:a=b):Ending.returned (.int k a) = .returned (.int k b):=by rw [h]
def Rws {α:Type} (R:World→Nat→List Value→α→Prop) (size:Nat) (w:World) (B:Nat) (A:Option Addr) (n:Nat) (xs:List α):Prop:=
  xs.length=n∧(0<n→∃ b o,A=some ⟨b,o,none⟩∧b<B∧∀ k x,xs[k]? = some x→∃ cs,cs.length=size∧R w B cs x∧w.rangeAt b (o+k*size) cs)
def zld {α:Type} (R:World→Nat→List Value→α→Prop) (size:Nat) (w:World) (B:Nat) (cs:List Value) (xs:List α):Prop:=
  ∃ A c,cs=[.slice A xs.length c]∧xs.length≤c∧c≤maxLen∧Rws R size w B A xs.length xs
theorem Rws.at_ {α:Type} {R:World→Nat→List Value→α→Prop} {size B n:Nat} {w:World} {A:Option Addr} {xs:List α} (h:Rws R size w B A n xs) {k:Nat} (hk:k<n) :
    ∃ b o cs x,A=some ⟨b,o,none⟩∧b<B∧xs[k]? = some x∧cs.length=size∧R w B cs x∧w.rangeAt b (o+k*size) cs:=by
  obtain ⟨b,o,e,hlt,hr⟩:=h.2 (by omega);have hl:k<xs.length:=by have:=h.1;omega
  obtain ⟨cs,h1,h2,h3⟩:=hr k _ (List.getElem?_eq_getElem hl);exact ⟨b,o,cs,_,e,hlt,List.getElem?_eq_getElem hl,h1,h2,h3⟩
def IntC (_:World) (_:Nat) (cs:List Value) (n:Int):Prop:=cs=[.int .i64 n]∧(Lit.int .i64 n).wf=true
theorem Rws.of_own {α:Type} {R:World→Nat→List Value→α→Prop} {size base n c:Nat} {e:TypeId} {w:World} {A:Option Addr} {xs:List α} {f:α→List Value}
    (h:w.ownsRow base e size (.slice A n c) n (xs.flatMap f)) (hn:xs.length=n) (hf:∀ x∈xs,(f x).length=size) (hR:∀ x∈xs,R w w.heap.size (f x) x):Rws R size w w.heap.size A n xs:=by
  refine ⟨hn,fun hpos => ?_⟩
  obtain ⟨g,cap,hv,_,hlt⟩:=h.form hpos;have hA:A=some ⟨g,0,none⟩:=by injection hv
  subst hA;refine ⟨g,0,rfl,hlt,fun k x hx => ?_⟩
  have hmem:x∈xs:=List.mem_of_getElem? hx;refine ⟨f x,hf x hmem,hR x hmem,fun j v hv => ?_⟩
  have hj:j<size:=by have:=hf x hmem;have:=(List.getElem?_eq_some_iff.1 hv).1;omega
  have key:∀ (l:List α) (k:Nat),(∀ y∈l,(f y).length=size)→l[k]? = some x→(l.flatMap f)[k*size+j]? = some v:=by
    intro l
    induction l with
    | nil=>intro k _ hk;simp at hk
    | cons y l ih =>
      intro k hy hk;have hly:(f y).length=size:=hy y (by simp)
      cases k with
      | zero =>
        simp only [List.getElem?_cons_zero,Option.some.injEq] at hk;subst hk;rw [List.flatMap_cons,List.getElem?_append_left (by omega)];simpa using hv
      | succ k =>
        rw [List.getElem?_cons_succ] at hk;rw [List.flatMap_cons,List.getElem?_append_right (by rw [hly,Nat.succ_mul];omega),hly];have:=ih k (fun z hz=>hy z (by simp [hz])) hk;rw [Nat.succ_mul];rw [show k*size+size+j-size=k*size+j by omega];exact this
  have h2:=h.cells (g:=g) rfl _ _ (key xs k hf hx);rw [Addr.add_mid] at h2;simpa [Nat.add_assoc] using h2
theorem zag {w:World} {base:Nat} {e:TypeId} {size n:Nat} {v:Value} {xs:List Value} (h:w.ownsRow base e size v n xs):∃ A c,v = .slice A n c∧n≤c∧c≤maxLen:=by
  rcases h.2 with ⟨rfl,rfl⟩ | ⟨g,cap,cur,rfl,_,_,h1,h2,_⟩
  · exact ⟨Option.none,0,rfl,Nat.le_refl _,Nat.zero_le _⟩
  · exact ⟨_,cap,rfl,h1,h2⟩
theorem zc8 {w:World} {base base':Nat} {e:TypeId} {size n:Nat} {v:Value} {xs:List Value} (h:w.ownsRow base e size v n xs) (hb:base'≤base):w.ownsRow base' e size v n xs:=by
  refine ⟨h.1,?_⟩
  rcases h.2 with h | ⟨g,cap,cur,h1,h2,h3⟩
  · exact .inl h
  · exact .inr ⟨g,cap,cur,h1,Nat.le_trans hb h2,h3⟩
theorem zbg {w w':World} {base B:Nat} {e:TypeId} {size n:Nat} {v:Value} {xs:List Value} (h:w.ownsRow base e size v n xs) (hb:Below B w w') (hB:w.heap.size≤B):w'.ownsRow base e size v n xs:=by
  refine ⟨h.1,?_⟩
  rcases h.2 with h | ⟨g,cap,cur,h1,h2,h3,h4⟩
  · exact .inl h
  · refine .inr ⟨g,cap,cur,h1,h2,(hb.block g ?_).trans h3,h4⟩
    rcases Nat.lt_or_ge g w.heap.size with hlt | hge
    · omega
    · rw [Array.getElem?_eq_none hge] at h3;cases h3
def RetRow (t:TypeId) (size n:Nat) (cells:List Value) (w:World) (e:Ending) (w':World):Prop:=
  ∃ A c,e = .returned (.slice A n c)∧n≤c∧c≤maxLen∧w'.ownsRow w.heap.size t size (.slice A n c) n cells∧Below w.heap.size w w'
theorem RetRow.mk {t:TypeId} {size n:Nat} {cells:List Value} {w w':World} {v:Value} {base:Nat} (h:w'.ownsRow base t size v n cells) (hb:w.heap.size≤base) (hbel:Below w.heap.size w w'):RetRow t size n cells w (.returned v) w':=by
  obtain ⟨A,c,rfl,h1,h2⟩:=zag h;exact ⟨A,c,rfl,h1,h2,zc8 h hb,hbel⟩
def zgl (b:Bool) (w:World) (e:Ending) (w':World):Prop:=e = .returned (.bool b)∧Below w.heap.size w w'
theorem zaI {P:Program} {ops:Array Oper} {rest:List Oper} {o:Oper} {a:Act} {Q:Exit→Act→World→Prop} (s x:Operand) (t:TypeId) {base:Nat} {e:TypeId} {i:TypeInfo} {z:Value} {size bytes:Nat}
    {v:Value} {n:Nat} {xs:List Value} {w1 wr:World} {news:Array Value} (hgd:o.guard=Option.none)
    (ho:o.op = .call { callee := .builtin .append,args := #[s,x],argTypes := #[t,t] })
    (ht:P.underlying t=some (.slice e)) (hi:P.info? e=some i) (hz:i.zero=some z) (hsize:i.size=size) (hby:i.bytes=bytes) (hzs:z.cells.size=size) (hsz:0<size)
    (hs:a.eval s=v) (hown:wr.ownsRow base e size v n xs) (hbel:Below base w1 wr) (H:Nat) (hH:wr.heap.size=H) (hx:a.eval x = .slice (some ⟨H,0,none⟩) 1 1) (hn:news.size=size) (h1:∀ u∈news.toList,u.oneCell'=true)
    (hbytes:(n+1)*bytes≤140737488355328) (hmax:n+1≤maxLen) (hbase:base≤wr.heap.size)
    (h:∀ v' w',w'.ownsRow base e size v' (n+1) (xs++news.toList)→Below base w1 w'→wr.heap.size≤w'.heap.size→wpList P ops Q rest (a.put o.dst v') w') :
    wpList P ops Q (o::rest) a (wr.alloc (.cells news e)):=by
  subst hH;have hb1:Below base w1 (wr.alloc (.cells news e)):=hbel.alloc hbase _;refine wpList_append_own_at _ hgd s x t ho base e i z size bytes ht hi hz hsize hby hzs hsz v n xs hs (hown.alloc _) ⟨wr.heap.size,0,none⟩ 1 1 news.toList hx (by simp [hn]) ?_ h1 hmax hbytes (by simp;omega) ?_
  · intro j u hu
    have h2:=cell_of_row (wr.alloc (.cells news e)) wr.heap.size j news e (0,0) (heap_alloc_new wr _)
    rw [Addr.add_mid,Nat.zero_add,h2]
    simpa using hu
  · intro v' w' hown' hg _ hat
    have hsz':=hg.size
    simp only [World.size_alloc] at hsz'
    refine h v' w' hown' (hb1.grown hg (by simp;omega) fun k hk => ?_) (by omega)
    exact (hown.lt k hk).1
def Src (w:World) (size:Nat) (A:Option Addr) (n:Nat) (xs:List Value):Prop:=
  xs.length=n*size∧(0<n→∃ ad,A=some ad∧∀ j u,xs[j]? = some u→w.cell? (ad.add j)=some u)
theorem zbW {P:Program} (w:World) (base:Nat) (t ty e:TypeId) (i:TypeInfo) (z:Value) (size bytes:Nat) (ht:P.underlying t=some (.slice e)) (hi:P.info? e=some i) (hz:i.zero=some z)
    (hsize:i.size=size) (hby:i.bytes=bytes) (hzs:z.cells.size=size) (hsz:0<size)
    (v:Value) (n:Nat) (xs:List Value) (hown:w.ownsRow base e size v n xs)
    (A:Option Addr) (m c:Nat) (news:List Value) (hr:Src w size A m news) (h1:∀ u∈news,u.oneCell'=true)
    (h63:n+m≤maxLen) (hbytes:(n+m)*bytes≤140737488355328) (hbase:base≤w.heap.size) :
    ∃ v' w',(Builtin.append_ #[t,t] ty #[v,.slice A m c]).run P w = .ok v' w'∧w'.ownsRow base e size v' (n+m) (xs++news)∧w.grownBy w' v.ownBlock ∧
      (v'.ownBlock=v.ownBlock∨v'.ownBlock=some w.heap.size):=by
  rcases A with _ | ad
  · have hm:m=0:=by
      rcases Nat.eq_zero_or_pos m with h0 | h0
      · exact h0
      · obtain ⟨ad,h,_⟩:=hr.2 h0
        cases h
    subst hm;have hn:news=[]:=List.eq_nil_of_length_eq_zero (by simpa using hr.1);subst hn;refine ⟨v,w,?_,by simpa using hown,World.grownBy.refl w _,.inl rfl⟩
    rcases hown.2 with ⟨rfl,rfl⟩ | ⟨g,cap,cur,rfl,_,_,hnc,_⟩
    · simp [Builtin.append_,run_underlying ht,sizeOf,typeInfo,hi,Builtin.lenOf,Builtin.firstCells]
    · simp [Builtin.append_,run_underlying ht,sizeOf,typeInfo,hi,Builtin.lenOf,Builtin.firstCells,hnc,storeCells]
  · have hcells:∀ j u,news[j]? = some u→w.cell? (ad.add j)=some u:=by
      intro j u hu
      rcases Nat.eq_zero_or_pos m with h0 | h0
      · subst h0
        have hn:news=[]:=List.eq_nil_of_length_eq_zero (by simpa using hr.1)
        subst hn
        simp at hu
      · obtain ⟨ad',h,hc⟩:=hr.2 h0
        injection h with h
        subst h
        exact hc j u hu
    obtain ⟨v',w',hrun,h2,h3,_,h5⟩:=run_append_own_at (P:=P) w base t ty e i z size bytes ht hi hz hsize hby hzs hsz v n xs hown ad m c news hr.1 hcells h1 h63 hbytes hbase;exact ⟨v',w',hrun,h2,h3,h5⟩
theorem zfo {P:Program} {w:World} {o:Oper} {a:Act} {K:Act→World→Prop} {Q:Exit→Act→World→Prop} (s x:Operand) (t:TypeId)
    {base:Nat} {e:TypeId} {i:TypeInfo} {z:Value} {size bytes:Nat} {v:Value} {n:Nat} {xs:List Value} {A:Option Addr} {m c:Nat} {news:List Value} {w1:World}
    (ho:o.op = .call { callee := .builtin .append,args := #[s,x],argTypes := #[t,t] })
    (ht:P.underlying t=some (.slice e)) (hi:P.info? e=some i) (hz:i.zero=some z) (hsize:i.size=size) (hby:i.bytes=bytes) (hzs:z.cells.size=size) (hsz:0<size)
    (hs:a.eval s=v) (hown:w.ownsRow base e size v n xs) (hbel:Below base w1 w) (hx:a.eval x = .slice A m c) (hr:Src w size A m news) (h1:∀ u∈news,u.oneCell'=true)
    (h63:n+m≤maxLen) (hbytes:(n+m)*bytes≤140737488355328) (hbase:base≤w.heap.size)
    (h:∀ v' w',w'.ownsRow base e size v' (n+m) (xs++news)→Below base w1 w'→w.heap.size≤w'.heap.size→K (a.put o.dst v') w'):o.wp P a w K Q:=by
  obtain ⟨v',w',hrun,h2,h3,h4⟩:=zbW (P:=P) w base t o.type e i z size bytes ht hi hz hsize hby hzs hsz v n xs hown A m c news hr h1 h63 hbytes hbase;unfold Oper.wp execOp;simp only [ho,resolve,invoke,builtin,Sem.run_bind,Sem.run_pure,Result.andThen_ok,List.map_toArray,List.map_cons,List.map_nil,hs,hx,hrun];exact h v' w' h2 (hbel.grown h3 hbase fun k hk=>(hown.lt k hk).1) h3.size
theorem za4 {P:Program} {w:World} {ops:Array Oper} {rest:List Oper} {o:Oper} {a:Act} {Q:Exit→Act→World→Prop} (s x:Operand) (t:TypeId)
    {base:Nat} {e:TypeId} {i:TypeInfo} {z:Value} {size bytes:Nat} {v:Value} {n:Nat} {xs:List Value} {A:Option Addr} {m c:Nat} {news:List Value} {w1:World} (hgd:o.guard=Option.none)
    (ho:o.op = .call { callee := .builtin .append,args := #[s,x],argTypes := #[t,t] })
    (ht:P.underlying t=some (.slice e)) (hi:P.info? e=some i) (hz:i.zero=some z) (hsize:i.size=size) (hby:i.bytes=bytes) (hzs:z.cells.size=size) (hsz:0<size)
    (hs:a.eval s=v) (hown:w.ownsRow base e size v n xs) (hbel:Below base w1 w) (hx:a.eval x = .slice A m c) (hr:Src w size A m news) (h1:∀ u∈news,u.oneCell'=true)
    (h63:n+m≤maxLen) (hbytes:(n+m)*bytes≤140737488355328) (hbase:base≤w.heap.size)
    (h:∀ v' w',w'.ownsRow base e size v' (n+m) (xs++news)→Below base w1 w'→w.heap.size≤w'.heap.size→wpList P ops Q rest (a.put o.dst v') w'):wpList P ops Q (o::rest) a w:=
  wpList_plain hgd fun _ hK=>zfo s x t ho ht hi hz hsize hby hzs hsz hs hown hbel hx hr h1 h63 hbytes hbase fun v' w' h2 h3 h4=>hK _ _ (h v' w' h2 h3 h4)
def zii (t:TypeId) (p v:Value):Sem Unit:=Instr.storeAt t p v
def zk7 (n:Nat) (cs:List Value):Prop:=cs.length=n∧∀ v∈cs,v.oneCell'=true
theorem zh9 {P:Program} (t:TypeId) (n:Nat) (hi:(P.info? t).map (·.size)=some n) (w:World) (z:Array Value) (cs:List Value) (g:Nat) (hg:g=w.heap.size) (hz:z.size=n) (hb:zk7 n cs) :
    (zii t (.pointer (some ⟨g,0,none⟩)) (.agg cs.toArray)).run P (w.alloc (.cells z t)) = .ok () (w.alloc (.cells cs.toArray t)):=by
  subst hg;refine run_storeAt_new w t z cs.toArray ?_ ?_ (all_oneCell_toArray hb.2)
  · rw [hi];simp [hb.1]
  · simp [hz,hb.1]
section
open Go.WideShapes Go.ChangeShapes
variable {H : Type} {enc : TypeId × Value → H} {P : Program}
theorem ze5 {f:Func} {s:ChangeSpec} {apart fresh handsOn again:Bool} {W W':World} {args:Array Value} {v:Value} {ds gs:List (DataW H)} {before pa pv:List MemPlace}
    (hW:DataW.Whole enc P f.params.toList s.vars apart W args.toList ds gs before)
    (hres:∀ (b:Nat) (sp:Nat→Bool) (hd:Bool),DataW.TrodAll enc P W' b sp hd f.resultTypes.toList (v.resultList f.resultTypes.size) (s.fn H (ds++gs)).results [])
    (hargs:∀ sp:Nat→Bool,(∀ p∈before,sp p.block=true)→DataW.TrodAll enc P W' 0 sp true f.params.toList args.toList (s.fn H (ds++gs)).args pa)
    (hvars:∀ sp:Nat→Bool,(∀ p∈before,sp p.block=true)→DataW.TrodVars enc P W' sp s.vars (s.fn H (ds++gs)).vars pv)
    (hps:before=pa++pv) (hb:Below W.heap.size W W')
    (hok:∀ (j:Nat) (t:TypeId) (r:Value),f.resultTypes[j]? = some t→(v.resultList f.resultTypes.size)[j]? = some r→Value.okWide P W' .any 0 t r) :
    s.post enc P f apart fresh handsOn again W args v W':=by
  have hlt:∀ p∈before,p.block<W.heap.size:=fun p hp=>hW.lt p hp
  have hold:∀ p∈before,(fun b=>decide (b<W.heap.size)) p.block=true:=fun p hp=>by simpa using hlt p hp
  refine ⟨ds,gs,before,[],pa,pv,hW,hres _ _ _,hargs _ hold,hvars _ hold,World.keptBut_mono (fun p hp=>⟨hp,?_⟩) (hb.frame (· ∈ before)),fun _ => ?_⟩
  · rw [hps,List.mem_append] at hp
    exact Or.inr hp
  · obtain ⟨_,_,_,_,_,hz,hn⟩:=hW
    refine ⟨hok,_,_,([]++pa)++pv,⟨[]++pa,pv,trodAll_append (hargs _ (fun _ _=>rfl)) (hres _ _ _),hvars _ (fun _ _=>rfl),rfl,?_,?_⟩,?_⟩
    · intro b off hp
      have hin:MemPlace.cell b off∈before:=by rw [hps];simpa using hp
      rw [hb.frozen (hlt _ hin)]
      exact hz b off hin
    · intro ha
      have:=hn ha
      rw [hps] at this
      simpa using this
    · intro p hp _
      rw [hps]
      simpa using hp
end
end Go.Proofs.YtcikenlflcofbaaGreatDoor
