/-
  The reference's Wants, kind and Check.
-/
import Derived.Test.YtcikenlflcofbaaGreatDoorKWeakP
set_option maxRecDepth 100000
set_option maxHeartbeats 8000000
namespace Go.Proofs.YtcikenlflcofbaaGreatDoor
open Go.RowKit
def zdn (op:Int):List Int:=if op=16 then [1,0,0] else List.replicate (zav op).toNat (sigP op).1
def zgL (op:Int):Int:=if op=16 then 0 else (sigP op).2
def zgQ (op:Int) (w:World) (e:Ending) (w':World):Prop:=∃ A,e = .returned (.tuple #[.slice A (zdn op).length (zdn op).length,.int .i64 (zgL op)])∧Rws IntC 1 w' w'.heap.size A (zdn op).length (zdn op)∧Below w.heap.size w w'
theorem zaT (w:World) (l:List Int) (hw:∀ n∈l,(Lit.int .i64 n).wf=true):Rws IntC 1 (w.alloc (Obj.cells (l.map fun n=>Value.int .i64 n).toArray 3)) (w.alloc (Obj.cells (l.map fun n=>Value.int .i64 n).toArray 3)).heap.size (some ⟨w.heap.size,0,none⟩) l.length l:=by
  refine ⟨rfl,fun _=>⟨w.heap.size,0,rfl,by rw [World.size_alloc];omega,fun k x hx=>⟨[.int .i64 x],rfl,⟨rfl,hw x (List.mem_of_getElem? hx)⟩,?_⟩⟩⟩
  intro j v hv;obtain rfl:j=0:=by have:=(List.getElem?_eq_some_iff.1 hv).1;simp at this;omega
  obtain rfl:v = .int .i64 x:=by simpa using hv.symm
  rw [cell_of_row _ w.heap.size _ _ _ (0,0) (heap_alloc_new w _)];simp [hx]
theorem zh2 (op:Int) (w:World) (h1:1≤op) (h2:op≤22) (h3:op≠3):Calls Tryz.prog 72 #[.int .i64 op] w (zgQ op w):=by
  have hop:op=1∨op=2∨op=4∨op=17∨op=18∨op=19∨op=20∨op=5∨op=6∨op=7∨op=21∨op=22∨op=8∨op=9∨op=10∨op=11∨op=12∨op=13∨op=14∨op=15∨op=16:=by omega
  clear h1 h2 h3
  rcases hop with rfl | rfl | rfl | rfl | rfl | rfl | rfl | rfl | rfl | rfl | rfl | rfl | rfl | rfl | rfl | rfl | rfl | rfl | rfl | rfl | rfl
  · go_enter Tryz.func72,Tryz.ntmps72
    go_wp2
    exact bodyPost_ret (v := .tuple #[.slice Option.none 0 0,.int .i64 1]) (by simp [results,Tryz.results72,go_sem]) rfl ⟨_,rfl,⟨rfl,fun h=>absurd h (Nat.lt_irrefl 0)⟩,Below.refl _ _⟩
  · go_enter Tryz.func72,Tryz.ntmps72
    go_wp2
    exact bodyPost_ret (v := .tuple #[.slice Option.none 0 0,.int .i64 2]) (by simp [results,Tryz.results72,go_sem]) rfl ⟨_,rfl,⟨rfl,fun h=>absurd h (Nat.lt_irrefl 0)⟩,Below.refl _ _⟩
  · go_enter Tryz.func72,Tryz.ntmps72
    go_wp2
    exact bodyPost_ret (v := .tuple #[.slice (some ⟨w.heap.size,0,none⟩) 1 1,.int .i64 1]) (by simp [results,Tryz.results72,go_sem]) rfl ⟨_,rfl,zaT w [1] (by decide),zaa w _⟩
  · go_enter Tryz.func72,Tryz.ntmps72
    go_wp2
    exact bodyPost_ret (v := .tuple #[.slice (some ⟨w.heap.size,0,none⟩) 1 1,.int .i64 1]) (by simp [results,Tryz.results72,go_sem]) rfl ⟨_,rfl,zaT w [1] (by decide),zaa w _⟩
  · go_enter Tryz.func72,Tryz.ntmps72
    go_wp2
    exact bodyPost_ret (v := .tuple #[.slice (some ⟨w.heap.size,0,none⟩) 1 1,.int .i64 1]) (by simp [results,Tryz.results72,go_sem]) rfl ⟨_,rfl,zaT w [1] (by decide),zaa w _⟩
  · go_enter Tryz.func72,Tryz.ntmps72
    go_wp2
    exact bodyPost_ret (v := .tuple #[.slice (some ⟨w.heap.size,0,none⟩) 1 1,.int .i64 1]) (by simp [results,Tryz.results72,go_sem]) rfl ⟨_,rfl,zaT w [1] (by decide),zaa w _⟩
  · go_enter Tryz.func72,Tryz.ntmps72
    go_wp2
    exact bodyPost_ret (v := .tuple #[.slice (some ⟨w.heap.size,0,none⟩) 1 1,.int .i64 1]) (by simp [results,Tryz.results72,go_sem]) rfl ⟨_,rfl,zaT w [1] (by decide),zaa w _⟩
  · go_enter Tryz.func72,Tryz.ntmps72
    go_wp2
    exact bodyPost_ret (v := .tuple #[.slice (some ⟨w.heap.size,0,none⟩) 2 2,.int .i64 1]) (by simp [results,Tryz.results72,go_sem]) rfl ⟨_,rfl,zaT w [1,1] (by decide),zaa w _⟩
  · go_enter Tryz.func72,Tryz.ntmps72
    go_wp2
    exact bodyPost_ret (v := .tuple #[.slice (some ⟨w.heap.size,0,none⟩) 2 2,.int .i64 1]) (by simp [results,Tryz.results72,go_sem]) rfl ⟨_,rfl,zaT w [1,1] (by decide),zaa w _⟩
  · go_enter Tryz.func72,Tryz.ntmps72
    go_wp2
    exact bodyPost_ret (v := .tuple #[.slice (some ⟨w.heap.size,0,none⟩) 2 2,.int .i64 1]) (by simp [results,Tryz.results72,go_sem]) rfl ⟨_,rfl,zaT w [1,1] (by decide),zaa w _⟩
  · go_enter Tryz.func72,Tryz.ntmps72
    go_wp2
    exact bodyPost_ret (v := .tuple #[.slice (some ⟨w.heap.size,0,none⟩) 2 2,.int .i64 1]) (by simp [results,Tryz.results72,go_sem]) rfl ⟨_,rfl,zaT w [1,1] (by decide),zaa w _⟩
  · go_enter Tryz.func72,Tryz.ntmps72
    go_wp2
    exact bodyPost_ret (v := .tuple #[.slice (some ⟨w.heap.size,0,none⟩) 2 2,.int .i64 2]) (by simp [results,Tryz.results72,go_sem]) rfl ⟨_,rfl,zaT w [1,1] (by decide),zaa w _⟩
  · go_enter Tryz.func72,Tryz.ntmps72
    go_wp2
    exact bodyPost_ret (v := .tuple #[.slice (some ⟨w.heap.size,0,none⟩) 2 2,.int .i64 1]) (by simp [results,Tryz.results72,go_sem]) rfl ⟨_,rfl,zaT w [2,2] (by decide),zaa w _⟩
  · go_enter Tryz.func72,Tryz.ntmps72
    go_wp2
    exact bodyPost_ret (v := .tuple #[.slice (some ⟨w.heap.size,0,none⟩) 2 2,.int .i64 1]) (by simp [results,Tryz.results72,go_sem]) rfl ⟨_,rfl,zaT w [2,2] (by decide),zaa w _⟩
  · go_enter Tryz.func72,Tryz.ntmps72
    go_wp2
    exact bodyPost_ret (v := .tuple #[.slice (some ⟨w.heap.size,0,none⟩) 2 2,.int .i64 1]) (by simp [results,Tryz.results72,go_sem]) rfl ⟨_,rfl,zaT w [2,2] (by decide),zaa w _⟩
  · go_enter Tryz.func72,Tryz.ntmps72
    go_wp2
    exact bodyPost_ret (v := .tuple #[.slice (some ⟨w.heap.size,0,none⟩) 2 2,.int .i64 2]) (by simp [results,Tryz.results72,go_sem]) rfl ⟨_,rfl,zaT w [2,2] (by decide),zaa w _⟩
  · go_enter Tryz.func72,Tryz.ntmps72
    go_wp2
    exact bodyPost_ret (v := .tuple #[.slice (some ⟨w.heap.size,0,none⟩) 2 2,.int .i64 2]) (by simp [results,Tryz.results72,go_sem]) rfl ⟨_,rfl,zaT w [2,2] (by decide),zaa w _⟩
  · go_enter Tryz.func72,Tryz.ntmps72
    go_wp2
    exact bodyPost_ret (v := .tuple #[.slice (some ⟨w.heap.size,0,none⟩) 2 2,.int .i64 2]) (by simp [results,Tryz.results72,go_sem]) rfl ⟨_,rfl,zaT w [2,2] (by decide),zaa w _⟩
  · go_enter Tryz.func72,Tryz.ntmps72
    go_wp2
    exact bodyPost_ret (v := .tuple #[.slice (some ⟨w.heap.size,0,none⟩) 2 2,.int .i64 2]) (by simp [results,Tryz.results72,go_sem]) rfl ⟨_,rfl,zaT w [2,2] (by decide),zaa w _⟩
  · go_enter Tryz.func72,Tryz.ntmps72
    go_wp2
    exact bodyPost_ret (v := .tuple #[.slice (some ⟨w.heap.size,0,none⟩) 1 1,.int .i64 2]) (by simp [results,Tryz.results72,go_sem]) rfl ⟨_,rfl,zaT w [2] (by decide),zaa w _⟩
  · go_enter Tryz.func72,Tryz.ntmps72
    go_wp2
    exact bodyPost_ret (v := .tuple #[.slice (some ⟨w.heap.size,0,none⟩) 3 3,.int .i64 0]) (by simp [results,Tryz.results72,go_sem]) rfl ⟨_,rfl,zaT w [1,0,0] (by decide),zaa w _⟩
def zcB (op:Int) (acc:List Int) (j:Nat):Int:=if (zdn op).getD j 0=0 then acc.getD 1 0 else (zdn op).getD j 0
theorem zfh (op:Int):(sigP op).1≠0∧(sigP op).2≠0:=by
  unfold sigP
  repeat' split
  all_goals exact ⟨by decide,by decide⟩
theorem zkI {op:Int} {acc:List Int} (hl:(acc.length:Int)=zav op):(zdn op).length=acc.length:=by
  unfold zdn
  split
  · next h =>
    subst h
    have:zav 16=3:=by decide
    show 3=acc.length
    omega
  · rw [List.length_replicate];omega
theorem zfn {op:Int} {acc:List Int} (hl:(acc.length:Int)=zav op) (h16:op≠16) {j:Nat} (hj:j<acc.length):zcB op acc j=(sigP op).1:=by
  have h:(zdn op).getD j 0=(sigP op).1:=by
    unfold zdn;rw [if_neg h16,List.getD_eq_getElem?_getD,List.getElem?_eq_getElem (by rw [List.length_replicate];omega),List.getElem_replicate]
    rfl
  unfold zcB;rw [h,if_neg (zfh op).1]
theorem zhm {l:List Int} (h:l.length=3):∃ a b c,l=[a,b,c]:=by
  match l,h with
  | [a,b,c],_=>exact ⟨a,b,c,rfl⟩
theorem kind_ok {env:List Sg} {op:Int} {nm:List UInt8} {acc:List Int} (h3:op≠3) (hl:(acc.length:Int)=zav op) (h:∀ j,j<acc.length→acc.getD j 0=zcB op acc j):chkN env op nm acc=(if zgL op=0 then acc.getD 1 0 else zgL op,0):=by
  by_cases h16:op=16
  · subst h16
    obtain ⟨a,b,c,rfl⟩:=zhm (l:=acc) (by have:zav 16=3:=by decide
                                         omega)
    have h0:a=1:=h 0 (by show 0<3;decide)
    have h2:c=b:=h 2 (by show 2<3;decide)
    subst h0 h2
    rw [zgo,if_neg (by simp)]
    rfl
  · have ha:acc.all (fun k=>decide (k=(sigP op).1))=true:=zkP (k:=acc.length) (fun j hj=>by rw [h j hj,zfn hl h16 hj]) (Nat.le_refl _)
    have hR:zgL op=(sigP op).2:=if_neg h16
    rw [zfu h3 h16,if_pos ha,hR,if_neg (zfh op).2]
theorem kind_bad {env:List Sg} {op:Int} {nm:List UInt8} {acc:List Int} (h3:op≠3) (hl:(acc.length:Int)=zav op) {j:Nat} (hj:j<acc.length) (h:¬ acc.getD j 0=zcB op acc j):chkN env op nm acc=(0,10):=by
  by_cases h16:op=16
  · subst h16
    obtain ⟨a,b,c,rfl⟩:=zhm (l:=acc) (by have:zav 16=3:=by decide
                                         omega)
    have hj3:j=0∨j=1∨j=2:=by simp at hj;omega
    rcases hj3 with rfl | rfl | rfl
    · exact zgo.trans (if_pos (.inl h))
    · exact absurd rfl h
    · exact zgo.trans (if_pos (.inr fun q=>h q.symm))
  · rw [zfn hl h16 hj] at h
    rw [zfu h3 h16,if_neg (ze0 hj h)]
theorem zeM {P:Nat→Prop} {k:Nat} (h:∀ j,j<k→P j) (hk:P k):∀ j,j<k+1→P j:=by
  intro j hj
  rcases Nat.lt_succ_iff_lt_or_eq.1 hj with q | rfl
  · exact h j q
  · exact hk
def KnR (W0:World) (env:List Sg) (nm:List UInt8) (g:Nat) (v:Value) (wr:World):Prop:=∃ j:Nat,j≤env.length∧env.length-j<g∧v = .int .i64 (j:Int)∧(∀ i y,i<j→env[i]? = some y→y.nm≠nm)∧Below W0.heap.size W0 wr
def KkR (w:World) (d:Nat) (env:List Sg) (ks:List Ex) (total:Except Int (List Int)) (W0:World) (g:Nat) (u v:Value) (wr:World):Prop:=
  ∃ (k:Nat) (acc:List Int),acc.length=k∧k≤ks.length∧ks.length-k<g∧v = .int .i64 (k:Int)∧chkL (chkG env d) acc (ks.drop k)=total∧wr.ownsRow (w.heap.size+1) 3 1 u k (acc.map fun n=>Value.int .i64 n)∧Below (w.heap.size+1) W0 wr
def KwR (W:World) (op:Int) (acc:List Int) (n:Nat) (g:Nat) (v:Value) (wq:World):Prop:=∃ k:Nat,k≤n∧n-k<g∧v = .int .i64 (k:Int)∧wq=W∧∀ j,j<k→acc.getD j 0=zcB op acc j
theorem ziQ {env:List Sg} {nm:List UInt8} {j:Nat} {y:Sg} (h:∀ i y,i<j→env[i]? = some y→y.nm≠nm) (hy:env[j]? = some y) (hn:y.nm=nm):zay env nm=some y.kind:=by
  have hj:=(List.getElem?_eq_some_iff.1 hy).1
  have he:env=env.take j++y::env.drop (j+1):=by
    have h1:env.drop j=y::env.drop (j+1):=by
      rw [List.drop_eq_getElem_cons hj];rw [List.getElem?_eq_getElem hj] at hy;injection hy with hy
      rw [hy]
    rw [← h1,List.take_append_drop]
  have h0:(env.take j).find? (fun x=>decide (x.nm=nm))=none:=by
    rw [List.find?_eq_none];intro x hx;obtain ⟨i,hi,rfl⟩:=List.getElem_of_mem hx;rw [List.length_take] at hi;have:=h i _ (by omega) (List.getElem?_eq_getElem (by omega));simpa [List.getElem_take] using this
  unfold zay;rw [he,List.find?_append,h0];simp [hn]
theorem zhB {env:List Sg} {nm:List UInt8} (h:∀ i y,i<env.length→env[i]? = some y→y.nm≠nm):zay env nm=none:=by
  refine zfO fun y hy => ?_
  obtain ⟨j,hj,rfl⟩:=List.getElem_of_mem hy;exact h j _ hj (List.getElem?_eq_getElem hj)
theorem ziJ (acc:List Int) (k2:Int):(acc.map fun n=>Value.int .i64 n)++(#[Value.int .i64 k2]:Array Value).toList=(acc++[k2]).map fun n=>Value.int .i64 n:=by simp
theorem zfL {W:World} {base:Nat} {A:Option Addr} {c:Nat} {acc:List Int} {n:Nat} (h:W.ownsRow base 3 1 (.slice A n c) n (acc.map fun n=>Value.int .i64 n)) (hn:acc.length=n) {j:Nat} (hj:j<n):∃ g,A=some ⟨g,0,none⟩∧base≤g∧g<W.heap.size∧∀ i,i<n→W.cell? ⟨g,i,none⟩=some (.int .i64 (acc.getD i 0)):=by
  obtain ⟨g,cap,hv,hlo,hlt⟩:=h.form (by omega);have hA:A=some ⟨g,0,none⟩:=by injection hv
  subst hA;refine ⟨g,rfl,hlo,hlt,fun i hi => ?_⟩
  have:=h.cells (g:=g) rfl i (.int .i64 (acc.getD i 0)) (by
    rw [List.getElem?_map,List.getD_eq_getElem?_getD,List.getElem?_eq_getElem (by omega)]
    rfl)
  rw [Addr.add_mid,Nat.zero_add] at this;exact this
theorem Rws.intAt {B n:Nat} {w:World} {A:Option Addr} {xs:List Int} (h:Rws IntC 1 w B A n xs) {k:Nat} (hk:k<n) :
    ∃ b o,A=some ⟨b,o,none⟩∧b<B∧w.cell? ⟨b,o+k,none⟩=some (.int .i64 (xs.getD k 0)):=by
  obtain ⟨b,o,cs,x,e,hlt,hx,_,⟨rfl,_⟩,hat⟩:=h.at_ hk;refine ⟨b,o,e,hlt,?_⟩
  rw [List.getD_eq_getElem?_getD,hx];simpa using hat 0 _ rfl
theorem zf8:∀ (d:Nat) (op n:Int) (nm:List UInt8) (A:Option Addr) (c:Nat) (ks:List Ex) (w:World) (A':Option Addr) (c':Nat) (env:List Sg),okG d (.mk op n nm ks)→ks.length≤c→c≤maxLen→ExP op n nm→Rw ExV 4 w (fun b=>b<w.heap.size) A ks.length ks →
    env.length≤c'→c'≤maxLen→Rw SgC 2 w (fun b=>b<w.heap.size) A' env.length env →
    Calls Tryz.prog 45 #[exV op n nm A ks.length c,.slice A' env.length c'] w (zig (chkG env d (.mk op n nm ks)) w)
  | 0,_,_,_,_,_,_,_,_,_,_,h,_,_,_,_,_,_,_=>h.elim
  | d+1,op,n,nm,A,c,ks,w,A',c',env,hok,hc,hm,hp,hr,hc',hm',hr'=>by
    have ih:=fun op n nm A c ks w=>zf8 d op n nm A c ks w A' c' env
    obtain ⟨hnode,hkids⟩:=hok;have hna:=zcF hnode;obtain ⟨hk3,hop1,hop2,h16,h03⟩:=zdZ hna
    have hv:chkG env (d+1) (.mk op n nm ks)=match chkL (chkG env d) [] ks with
      | .error e=>(0,e)
      | .ok l=>chkN env op nm l:=rfl
    have hX:=XV.new w op n nm A ks.length c;have hb1:=zaa w (Obj.cells #[.int .i64 op,.int .i64 n,.string ⟨nm.toArray⟩,.slice A ks.length c] 48);have HIH:=Hi ih;have HK:=Hi hkids;have HR:=Hi hr;have HR':=Hi hr';have HV:=Hi hv;have HX:=Hi hX;have HB:=Hi hb1;have HNA:=Hi hna;have HC':=Hi hc';have HM':=Hi hm';clear ih hkids hr hr' hv hX hb1 hnode hp hna;unfold maxLen at hm hm';unfold exV
    by_cases ho3:op=3
    · subst ho3
      obtain rfl:ks=[]:=List.length_eq_zero_iff.1 (h03 rfl)
      have HV3:=Hi (show chkG env (d+1) (.mk 3 n nm [])=chkN env 3 nm [] from HV.out)
      clear h16 h03 HK HIH HV
      show Calls _ _ #[.agg #[_,_,_,.slice A 0 c],_] _ _
      go_enter Tryz.func45,Tryz.ntmps45
      go_wp2
      go_loopg [22] (env.length+1) (fun g v wr=>KnR (w.alloc (Obj.cells #[.int .i64 3,.int .i64 n,.string ⟨nm.toArray⟩,.slice A 0 c] 48)) env nm g v wr)
      case atStart=>exact ⟨0,Nat.zero_le _,by omega,rfl,fun i y h=>absurd h (Nat.not_lt_zero _),Below.refl _ _⟩
      case round =>
        obtain ⟨j,hj,hgj,rfl,hall,hbq⟩:=hrel
        have HALL:=Hi hall
        have hbw:=zac HB.out hbq HB.out.size
        have hsq:=hbq.size
        simp only [World.size_alloc] at hsq
        clear hall
        by_cases hjk:j<env.length
        case neg =>
          obtain rfl:j=env.length:=by omega
          have HN:=Hi (show chkN env 3 nm []=(0,9) from zcX (by rw [zhB HALL.out]))
          have HBW:=Hi hbw
          clear hbq hbw
          go_wp2
          refine bodyPost_ret (v := .tuple #[.int .i64 0,.int .i64 9]) (by simp [results,Tryz.results45,go_sem]) rfl ⟨?_,HBW.out⟩
          rw [HV3.out,HN.out]
        obtain ⟨b',o',s',hA',hSb',hx',hxl',hxw',u0,u1⟩:=sgAt (HR'.out.mono SgC.mono (fun _ q=>q) (zab hbw fun _ q=>q)) hjk
        subst hA'
        obtain ⟨nm',kd'⟩:=s'
        dsimp only at *
        have hbk':b'<wr.heap.size:=by omega
        have hzz:w.heap.size<wr.heap.size:=by omega
        obtain ⟨z0,z1,z2,z3,-,-,-,-⟩:=(HX.out.below hbq).cells
        have hbx':=zaa wr (Obj.cells #[.string ⟨nm'.toArray⟩,.int .i64 kd'] 40)
        have HBQ:=Hi (zac hbq hbx' hbq.size)
        have HBW:=Hi (zac hbw hbx' hbw.size)
        have HX':=Hi hx'
        clear hbq hbw hbx' hx' hSb'
        by_cases he:nm'=nm
        · have e1:(nm' == nm)=true:=by simp [he]
          have HN:=Hi (show chkN env 3 nm []=(kd',0) from zcX (by rw [ziQ HALL.out HX'.out he]))
          clear he
          go_wp2
          refine bodyPost_ret (v := .tuple #[.int .i64 kd',.int .i64 0]) (by simp [results,Tryz.results45,go_sem]) rfl ⟨?_,HBW.out⟩
          rw [HV3.out,HN.out]
        · have e1:(nm' == nm)=false:=by simp [he]
          have HS:=Hi (zgr HALL.out HX'.out he)
          clear he
          go_wp2
          go_roundg (env.length-j)
          case measure=>omega
          case rel=>exact ⟨j+1,by omega,by omega,by go_num,HS.out,HBQ.out⟩
    have o3:(op == 3)=false:=by simp [ho3]
    have H16:=Hi h16;have HO3:=Hi ho3;have HW:=Hi (fun W=>zh2 op W hop1 hop2 ho3);obtain ⟨i,hi,hz0,hz1,hz2⟩:=info_parts zlo;have HI:=Hi (And.intro hi (And.intro hz0 (And.intro hz1 hz2)));clear h16 h03 ho3 hi hz0 hz1 hz2;go_enter Tryz.func45,Tryz.ntmps45;go_wp2;go_loopg [8,37] (ks.length+1) (fun g u v wr=>KkR w d env ks (chkL (chkG env d) [] ks) (w.alloc (Obj.cells #[.int .i64 op,.int .i64 n,.string ⟨nm.toArray⟩,.slice A ks.length c] 48)) g u v wr)
    case atStart=>exact ⟨0,[],rfl,Nat.zero_le _,by omega,rfl,by rw [List.drop_zero],World.ownsRow_nil _ _ _ _,Below.refl _ _⟩
    case round =>
      obtain ⟨k,acc,hal,hk,hgk,rfl,htot,hown,hbq⟩:=hrel;obtain ⟨A8,c8,rfl,hc8,hm8⟩:=zag hown;have hbx0:Below (w.alloc (Obj.cells #[.int .i64 op,.int .i64 n,.string ⟨nm.toArray⟩,.slice A ks.length c] 48)).heap.size (w.alloc (Obj.cells #[.int .i64 op,.int .i64 n,.string ⟨nm.toArray⟩,.slice A ks.length c] 48)) wr:=hbq.mono (by rw [World.size_alloc];exact Nat.le_refl _);have hbel:=zac HB.out hbx0 HB.out.size;have hsw:=hbx0.size;simp only [World.size_alloc] at hsw;unfold maxLen at hm8
      by_cases hlt:k<ks.length
      case pos =>
        obtain ⟨b,o,op2,n2,nm2,A2,c2,ys,hA,hSb,hky,hc2,hm2,hp2,hr2,hxb⟩:=exAt (HR.out.mono ExV.mono (fun _ q=>q) (zab hbel fun _ q=>q)) hlt;subst hA;obtain ⟨y0,y1,y2,y3⟩:=hxb
        have hget:ks[k] = .mk op2 n2 nm2 ys:=by
          rw [List.getElem?_eq_getElem hlt] at hky;injection hky
        rw [List.drop_eq_getElem_cons hlt,hget] at htot;rw [zft] at htot;have hbx:=zaa wr (Obj.cells #[.int .i64 op2,.int .i64 n2,.string ⟨nm2.toArray⟩,.slice A2 ys.length c2] 48);have hin:Ex.mk op2 n2 nm2 ys∈ks:=hget ▸ List.getElem_mem hlt;have hbx2:=zac hbel hbx hbel.size
        have C:=HIH.out op2 n2 nm2 A2 c2 ys (wr.alloc (Obj.cells #[.int .i64 op2,.int .i64 n2,.string ⟨nm2.toArray⟩,.slice A2 ys.length c2] 48)) (HK.out _ hin) hc2 hm2 hp2
          (hr2.mono ExV.mono (fun b hb=>by simp only [World.size_alloc];omega) (zab hbx fun b hb=>by omega)) HC'.out HM'.out
          (HR'.out.mono SgC.mono (fun b hb=>Nat.lt_of_lt_of_le hb hbx2.size) (zab hbx2 fun _ q=>q))
        generalize chkG env d (.mk op2 n2 nm2 ys)=r2 at *;obtain ⟨k2,e2⟩:=r2;unfold exV at C;dsimp only at htot;have HC:=Hi C;have HT:=Hi htot;have HB2:=Hi hbx2;have HB3:=Hi (hbq.alloc (show w.heap.size+1≤wr.heap.size from hsw) (Obj.cells #[.int .i64 op2,.int .i64 n2,.string ⟨nm2.toArray⟩,.slice A2 ys.length c2] 48));have HO2:=Hi (hown.alloc (Obj.cells #[.int .i64 op2,.int .i64 n2,.string ⟨nm2.toArray⟩,.slice A2 ys.length c2] 48));have hbk:b<wr.heap.size:=by omega
        have HAL:=Hi hal;clear C htot hbx hbx2 hown hbel hky hget hr2 hin hp2 hSb hal hbq hbx0;unfold maxLen at hm2
        by_cases he:e2=0
        case neg =>
          have hne:(e2 != 0)=true:=by simp [he]
          have HT2:=Hi (show chkL (chkG env d) [] ks = .error e2 by rw [← HT.out,if_neg he]);clear he;go_wp2_with fail
          refine HC.out.mono ?_
          rintro e w5 ⟨rfl,hb5⟩
          dsimp only;have HB5:=Hi (zac HB2.out hb5 HB2.out.size);clear hb5;go_wp2;refine bodyPost_ret (v := .tuple #[.int .i64 0,.int .i64 e2]) (by simp [results,Tryz.results45,go_sem]) rfl ⟨?_,HB5.out⟩
          rw [HV.out,HT2.out]
        subst he;have HT2:=Hi (show chkL (chkG env d) (acc++[k2]) (ks.drop (k+1))=chkL (chkG env d) [] ks by rw [← HT.out,if_pos rfl]);obtain ⟨i1,i2,i3,i4⟩:=HI.out;have HI1:=Hi i1;have HI2:=Hi i2;have HI3:=Hi i3;have HI4:=Hi i4;clear i1 i2 i3 i4;go_wp2_with fail
        refine HC.out.mono ?_
        rintro e w5 ⟨rfl,hb5⟩
        dsimp only;have hs5:=hb5.size;simp only [World.size_alloc] at hs5;have HB5:=Hi (HB3.out.trans (hb5.mono (by simp only [World.size_alloc];omega)));have HO5:=Hi (zbg HO2.out hb5 (Nat.le_refl _));have hsz5:w.heap.size+1≤w5.heap.size:=by omega
        clear hb5;go_wp2_with (at_builtin;refine zaI (o:=⟨some 53,_,_,_,_,_⟩) _ _ 38 rfl rfl Tryz.underlying38 HI1.out HI2.out HI3.out HI4.out rfl (by decide) rfl HO5.out HB5.out _ rfl rfl rfl (by simp [Value.oneCell']) (by omega) (by unfold maxLen;omega) hsz5 ?_;intro v' w' hown' hbel' _)
        rw [ziJ] at hown';have HO6:=Hi hown';have HB6:=Hi hbel';clear hown' hbel';go_wp2;go_roundg (ks.length-k)
        case measure=>omega
        case rel=>exact ⟨k+1,acc++[k2],by rw [List.length_append,HAL.out];rfl,by omega,by omega,by go_num,HT2.out,HO6.out,HB6.out⟩
      obtain rfl:k=ks.length:=by omega
      rw [List.drop_length] at htot;have hE:chkG env (d+1) (.mk op n nm ks)=chkN env op nm acc:=by rw [HV.out,← htot];rfl
      obtain ⟨x0,x1,x2,x3,-,-,-,-⟩:=(HX.out.below hbx0).cells;have hna2:(acc.length:Int)=zav op:=by rw [hal];exact HNA.out
      have HE:=Hi hE;have HWL:=Hi (zkI hna2);have HNB:=Hi (fun j => @kind_bad env op nm acc HO3.out hna2 j);have HNO:=Hi (@kind_ok env op nm acc HO3.out hna2);have HBW:=Hi hbel;have HAL:=Hi hal;have HOW:=Hi hown
      have HL1:=Hi (fun j (hj:j<ks.length) (h:(zdn op).getD j 0=0)=>show 2≤ks.length by
        have hw:op=16:=by
          rcases Classical.em (op=16) with q | q
          · exact q
          · exfalso
            have h1:=zfn hna2 q (j:=j) (by omega)
            have h2:=(zfh op).1
            have h3:(zdn op).getD j 0=(sigP op).1:=by
              unfold zdn
              rw [if_neg q,List.getD_eq_getElem?_getD,List.getElem?_eq_getElem (by rw [List.length_replicate];omega),List.getElem_replicate]
              rfl
            rw [h3] at h
            exact h2 h
        have:=H16.out hw;omega)
      have HR0:=Hi (fun (h:zgL op=0)=>show 2≤ks.length by
        have hw:op=16:=by
          rcases Classical.em (op=16) with q | q
          · exact q
          · exfalso
            unfold zgL at h
            rw [if_neg q] at h
            exact (zfh op).2 h
        have:=H16.out hw;omega)
      clear hE hbel hal htot hown HX HB HIH HK HR HR' HV hlt hbx0 hbq hna2 HNA H16;obtain ⟨wl,hwl⟩:∃ wl,zdn op=wl:=⟨_,rfl⟩;have C2:=HW.out wr;unfold zgQ at C2;rw [hwl] at C2;rw [hwl] at HWL;have HWE:=Hi hwl;have hwll:wl.length=ks.length:=by rw [HWL.out,HAL.out]
      rw [hwll] at C2;have HC2:=Hi C2;clear C2 hwl hwll HW;obtain ⟨wr0,hwr0⟩:∃ wr0,zgL op=wr0:=⟨_,rfl⟩;rw [hwr0] at HC2;have HWR:=Hi hwr0;clear hwr0;go_wp2_with fail
      refine HC2.out.mono ?_
      rintro e w6 ⟨A6,rfl,hrw6,hb6⟩
      have HB6:=Hi (zac HBW.out hb6 HBW.out.size);have HO6:=Hi (zbg HOW.out hb6 (Nat.le_refl _));have HR6:=Hi hrw6;clear hrw6 hb6 x0 x1 x2 x3;go_wp2;go_loopg [63] (ks.length+1) (fun g v wq=>KwR w6 op acc ks.length g v wq)
      case atStart=>exact ⟨0,Nat.zero_le _,by omega,rfl,rfl,fun j h=>absurd h (Nat.not_lt_zero _)⟩
      case round =>
        obtain ⟨k,hk,hg2,rfl,rfl,hall⟩:=hrel;have HALL:=Hi hall;clear hall
        by_cases hlt:k<ks.length
        case neg =>
          obtain rfl:k=ks.length:=by omega
          have HF:=Hi (HNO.out (by rw [HAL.out];exact HALL.out))
          by_cases hr0:wr0=0
          · subst hr0
            have h2:=HR0.out HWR.out
            obtain ⟨g8,hA8,hlo8,hlt8,hc8'⟩:=zfL HO6.out HAL.out (j:=1) (by omega)
            subst hA8
            have hcc:=hc8' 1 (by omega)
            obtain ⟨a1,ha1⟩:∃ a1,acc.getD 1 0=a1:=⟨_,rfl⟩
            rw [ha1] at hcc
            have HF2:=Hi (show chkN env op nm acc=(a1,0) by rw [HF.out,HWR.out,if_pos rfl,ha1])
            clear hc8' ha1
            have h2':1<ks.length:=h2
            go_wp2
            refine bodyPost_ret (v := .tuple #[.int .i64 a1,.int .i64 0]) (by simp [results,Tryz.results45,go_sem]) rfl ⟨?_,HB6.out⟩
            rw [HE.out,HF2.out]
          · have r0:(wr0 == 0)=false:=by simp [hr0]
            have HF2:=Hi (show chkN env op nm acc=(wr0,0) by rw [HF.out,HWR.out,if_neg hr0])
            clear hr0
            go_wp2
            refine bodyPost_ret (v := .tuple #[.int .i64 wr0,.int .i64 0]) (by simp [results,Tryz.results45,go_sem]) rfl ⟨?_,HB6.out⟩
            rw [HE.out,HF2.out]
        obtain ⟨g8,hA8,hlo8,hlt8,hc8'⟩:=zfL HO6.out HAL.out hlt;subst hA8;have hck:=hc8' k hlt;obtain ⟨b6,o6,hA6,hb6,hc6⟩:=HR6.out.intAt hlt;subst hA6;obtain ⟨ak,hak⟩:∃ ak,acc.getD k 0=ak:=⟨_,rfl⟩;obtain ⟨wk,hwk⟩:∃ wk,wl.getD k 0=wk:=⟨_,rfl⟩;rw [hak] at hck;rw [hwk] at hc6;have HAK:=Hi hak;have HWK:=Hi hwk;clear hak hwk
        by_cases hw0:wk=0
        · have h2:1<ks.length:=HL1.out k hlt (by rw [HWE.out,HWK.out,hw0])
          have hc1:=hc8' 1 h2
          obtain ⟨a1,ha1⟩:∃ a1,acc.getD 1 0=a1:=⟨_,rfl⟩
          rw [ha1] at hc1
          have hwa:zcB op acc k=a1:=by unfold zcB;rw [HWE.out,HWK.out,if_pos hw0,ha1]
          clear hc8' ha1
          subst hw0
          by_cases hv:ak=a1
          · have HS:=Hi (zeM (P:=fun j=>acc.getD j 0=zcB op acc j) HALL.out (by rw [HAK.out,hwa];exact hv))
            have v1:(ak != a1)=false:=by simp [hv]
            clear hv hwa
            go_wp2
            go_roundg (ks.length-k)
            case measure=>omega
            case rel=>exact ⟨k+1,hlt,by omega,by go_num,rfl,HS.out⟩
          · have HF:=Hi (HNB.out k (by rw [HAL.out];exact hlt) (by rw [HAK.out,hwa];exact hv))
            have v1:(ak != a1)=true:=by simp [hv]
            clear hv hwa
            go_wp2
            refine bodyPost_ret (v := .tuple #[.int .i64 0,.int .i64 10]) (by simp [results,Tryz.results45,go_sem]) rfl ⟨?_,HB6.out⟩
            rw [HE.out,HF.out]
        · have hw1:(wk == 0)=false:=by simp [hw0]
          have hwa:zcB op acc k=wk:=by unfold zcB;rw [HWE.out,HWK.out,if_neg hw0]
          clear hc8' hw0
          by_cases hv:ak=wk
          · have HS:=Hi (zeM (P:=fun j=>acc.getD j 0=zcB op acc j) HALL.out (by rw [HAK.out,hwa];exact hv))
            have v1:(ak != wk)=false:=by simp [hv]
            clear hv hwa
            go_wp2
            go_roundg (ks.length-k)
            case measure=>omega
            case rel=>exact ⟨k+1,hlt,by omega,by go_num,rfl,HS.out⟩
          · have HF:=Hi (HNB.out k (by rw [HAL.out];exact hlt) (by rw [HAK.out,hwa];exact hv))
            have v1:(ak != wk)=true:=by simp [hv]
            clear hv hwa
            go_wp2
            refine bodyPost_ret (v := .tuple #[.int .i64 0,.int .i64 10]) (by simp [results,Tryz.results45,go_sem]) rfl ⟨?_,HB6.out⟩
            rw [HE.out,HF.out]
end Go.Proofs.YtcikenlflcofbaaGreatDoor
