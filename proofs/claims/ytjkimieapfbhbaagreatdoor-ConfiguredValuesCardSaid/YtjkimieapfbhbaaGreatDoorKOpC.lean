/-
 From the form's own reading of an argument ('DataW.trod') to the words of the Base text: structs field by field, slices as lists. No program is named here.
-/
import Derived.Test.YtjkimieapfbhbaaGreatDoorKTexts
import Derived.Test.YtjkimieapfbhbaaGreatDoorKFind
import Derived.Test.YtjkimieapfbhbaaGreatDoorKRSc
open Go.Proofs.Tryz renaming prog → g
open Go.Value renaming slice → u, string → E
open List renaming getElem?_eq_getElem → C, getElem?_of_mem → F, mem_of_getElem? → I, getElem?_eq_none → J
open Option.some renaming inj → G
namespace Go.Proofs.YtjkimieapfbhbaaGreatDoor
open Go.RowKit Go.Deep
section
variable {H : Type} {enc : TypeId × Value → H} {P : Program} {w : World} {base : Nat} {spare : Nat → Bool} {held : Bool}
theorem zj2 {α:Type} (p:Nat→α→Prop):∀ n:Nat,(∀ i,i<n→∃ y,p i y)→∃ l:List α,l.length=n∧∀ k y,l[k]? = some y→p k y
 | 0,_=>⟨[],rfl,fun k y h=>by simp at h⟩
 | n+1,h=>by
   obtain ⟨l,hl,hp⟩:=zj2 p n fun i hi=>h i (by omega)
   obtain ⟨y,hy⟩:=h n (by omega)
   refine ⟨l++[y],by simp [hl],fun k z hz => ?_⟩
   rcases Nat.lt_or_ge k n with hk | hk
   · rw [List.getElem?_append_left (by omega)] at hz;exact hp k z hz
   · have hk':k=n:=by
      have:=(List.getElem?_eq_some_iff.1 hz).1
      simp at this;omega
     subst hk'
     rw [List.getElem?_append_right (by omega)] at hz
     simp [hl] at hz
     subst hz;exact hy
theorem zkt {a:Addr} {v:Value} (h:w.cell? a=some v):a.spot=Option.none:=by
 unfold World.cell? at h
 split at h
 · split at h
   · cases h
   · rename_i hs
     cases hsp:a.spot with
     | none=>rfl
     | some x=>rw [hsp] at hs;simp at hs
 · cases h
theorem zaM {α:Type} {R:World→Nat→List Value→α→Prop} {t e:TypeId} {size fuel:Nat} {cs:List Value} {x:DataW H × List MemPlace} (hpos:0<size) (ht:P.underlying t=some (.slice e)) (hC:P.cellsOf e=size)
 (hel:∀ (n:Nat) (ds:List Value) (y:DataW H × List MemPlace),ds.length=size→DataW.trod enc P w base spare held n e ds=some y→∃ z,R w w.heap.size ds z)
 (h:DataW.trod enc P w base spare held fuel t cs=some x):∃ zs,SliceOf R size w w.heap.size cs zs:=by
 rcases open_slice ht h with ⟨rfl,_⟩ | ⟨a,len,cap,m,n,D,Pl,rfl,hb,hl,hm,hmm,hx,hi⟩
 · exact ⟨[],Option.none,0,rfl,Nat.le_refl _,Nat.zero_le _,rfl,fun h=>absurd h (Nat.not_lt_zero _)⟩
 · have hlm:len≤m:=by rw [hmm];split <;> omega
   have hper:∀ i,i<len→∃ z,∃ ds,ds.length=size∧R w w.heap.size ds z∧∀ j v,ds[j]? = some v→w.cell? (a.add (i*size+j))=some v:=by
    intro i hil
    obtain ⟨ds,hds,htr⟩:=hi i (by omega)
    rw [hC] at hds
    obtain ⟨_,hdl,hat⟩:=World.cells?_some hds
    obtain ⟨z,hz⟩:=hel n ds _ hdl htr
    refine ⟨z,ds,hdl,hz,fun j v hv => ?_⟩
    have hj:j<size:=by have:=(List.getElem?_eq_some_iff.1 hv).1;omega
    have:=hat j hj
    rw [Go.Deep.add_add] at this
    rw [this,hv]
   obtain ⟨zs,hzl,hzp⟩:=zj2 _ len hper
   refine ⟨zs,some a,cap,by rw [hzl],by omega,hm,rfl,fun hn => ?_⟩
   obtain ⟨ds0,hd0,_,hc0⟩:=hzp 0 (zs[0]'(by omega)) (C (by omega))
   have hcell0:=hc0 0 (ds0[0]'(by omega)) (C (by omega))
   have ha:a=⟨a.block,a.off,Option.none⟩:=by
    have:a.add (0*size+0)=a:=by simp [Addr.add]
    rw [this] at hcell0
    have:=zkt hcell0
    cases a;simp_all
   have hblk:a.block<w.heap.size:=by
    have:a.add (0*size+0)=a:=by simp [Addr.add]
    rw [this] at hcell0
    exact block_lt_of_cell hcell0
   refine ⟨a.block,a.off,congrArg some ha,hblk,fun k z hz => ?_⟩
   obtain ⟨ds,hdl,hR,hat⟩:=hzp k z hz
   refine ⟨ds,hdl,hR,fun j v hv => ?_⟩
   have:=hat j v hv
   rw [ha,Addr.add_mid] at this
   simpa [Nat.add_assoc] using this
theorem zaE {t:TypeId} {fs:Array Field} {fuel:Nat} {cs:List Value} {x:DataW H × List MemPlace} (ht:P.underlying t=some (.struct fs)) (h:DataW.trod enc P w base spare held fuel t cs=some x)
 (i:Nat) {f:Field} (hf:fs[i]? = some f) (h1:P.cellsOf f.type=1) (hoff:f.offset<P.cellsOf t) :
 ∃ n v y,cs[f.offset]? = some v∧DataW.trod enc P w base spare held n f.type [v]=some y:=by
 obtain ⟨xs,n,_,_,hlen,hxl,hg⟩:=DataW.trod_struct ht h;have hif:i<fs.size:=(Array.getElem?_eq_some_iff.1 hf).1;have hgi:=hg i f hf;rw [h1] at hgi;have hl:f.offset<cs.length:=by omega
 have hone:(cs.drop f.offset).take 1=[cs[f.offset]'hl]:=by
  rw [List.drop_eq_getElem_cons hl];rfl
 rw [hone,C (by omega)] at hgi;exact ⟨n,_,_,C hl,hgi⟩
theorem zbo {t:TypeId} {fs:Array Field} {fuel:Nat} {cs:List Value} {x:DataW H × List MemPlace} (ht:P.underlying t=some (.struct fs)) (h:DataW.trod enc P w base spare held fuel t cs=some x):cs.length=P.cellsOf t:=by
 obtain ⟨xs,n,_,_,hlen,_⟩:=DataW.trod_struct ht h;exact hlen
def zcr (P:Program):Nat→TypeId→Bool
 | 0,_=>false
 | d+1,t=>match P.underlying t with
   | some (.struct fs)=>((fs.toList.flatMap fun f=>(List.range (P.cellsOf f.type)).map (f.offset + ·)) == List.range (P.cellsOf t)) && fs.toList.all fun f=>zcr P d f.type
   | some (.array n e)=>(n*P.cellsOf e == P.cellsOf t) && zcr P d e
   | _=>true
theorem ziq:∀ (d:Nat) (t:TypeId) (fuel:Nat) (cs:List Value) (x:DataW H × List MemPlace),zcr P d t=true→DataW.trod enc P w base spare held fuel t cs=some x→∀ v∈cs,v.oneCell'=true:=by
 intro d
 induction d with
 | zero=>intro t fuel cs x ht;simp [zcr] at ht
 | succ d ih =>
   intro t fuel cs x htl h v hv
   cases hu:P.underlying t with
   | none =>
     cases fuel with
     | zero=>simp [DataW.trod] at h
     | succ n=>unfold DataW.trod at h;rw [hu] at h;simp at h
   | some desc =>
     by_cases hs:∃ fs,desc = .struct fs
     · obtain ⟨fs,rfl⟩:=hs
       simp only [zcr,hu,Bool.and_eq_true,beq_iff_eq,List.all_eq_true] at htl
       obtain ⟨xs,n,_,_,hlen,hxl,hg⟩:=DataW.trod_struct hu h
       obtain ⟨j,hj⟩:=F hv
       have hjl:j<P.cellsOf t:=by have:=(List.getElem?_eq_some_iff.1 hj).1;omega
       have hmem:j∈fs.toList.flatMap fun f=>(List.range (P.cellsOf f.type)).map (f.offset + ·):=by rw [htl.1];simpa using hjl
       obtain ⟨f,hf,hjf⟩:=List.mem_flatMap.1 hmem
       obtain ⟨i,hi,rfl⟩:=List.mem_map.1 hjf
       have hi':i<P.cellsOf f.type:=by simpa using hi
       obtain ⟨k,hk⟩:=F hf
       have hk':fs[k]? = some f:=by simpa using hk
       have hkl:k<fs.size:=(Array.getElem?_eq_some_iff.1 hk').1
       have hgk:=hg k f hk'
       rw [C (by omega)] at hgk
       refine ih f.type n _ _ (htl.2 f hf) hgk v ?_
       refine I (i:=i) ?_
       rw [List.getElem?_take_of_lt hi',List.getElem?_drop]
       exact hj
     · by_cases ha:∃ n e,desc = .array n e
       · obtain ⟨n,e,rfl⟩:=ha
         simp only [zcr,hu,Bool.and_eq_true,beq_iff_eq] at htl
         cases fuel with
         | zero=>simp [DataW.trod] at h
         | succ fu =>
           unfold DataW.trod at h
           rw [hu] at h
           simp only at h
           split at h
           · rename_i hcl
             cases hm:(List.range n).mapM fun i=>DataW.trod enc P w base spare held fu e ((cs.drop (i*P.cellsOf e)).take (P.cellsOf e)) with
             | none=>rw [hm] at h;simp at h
             | some ys =>
               obtain ⟨hyl,hyp⟩:=zdF _ _ _ hm
               obtain ⟨j,hj⟩:=F hv
               have hjl:j<n*P.cellsOf e:=by have:=(List.getElem?_eq_some_iff.1 hj).1;omega
               have hc0:0<P.cellsOf e:=by
                rcases Nat.eq_zero_or_pos (P.cellsOf e) with h0 | h0
                · rw [h0] at hjl;simp at hjl
                · exact h0
               have hq:j / P.cellsOf e<n:=Nat.div_lt_of_lt_mul (by rw [Nat.mul_comm];exact hjl)
               have hq2:=hyp (j / P.cellsOf e) (j / P.cellsOf e) (by simp [List.getElem?_range hq])
               rw [C (by simp at hyl;omega)] at hq2
               refine ih e fu _ _ htl.2 hq2 v ?_
               have hr:=Nat.mod_lt j hc0
               refine I (i:=j % P.cellsOf e) ?_
               rw [List.getElem?_take_of_lt hr,List.getElem?_drop,Nat.div_add_mod']
               exact hj
           · cases h
       · cases fuel with
         | zero=>simp [DataW.trod] at h
         | succ n =>
           unfold DataW.trod at h
           rw [hu] at h
           cases desc <;> first | exact absurd ⟨_,rfl⟩ hs | exact absurd ⟨_,_,rfl⟩ ha | skip
           all_goals (simp only at h;first | (cases h;done) | (split at h <;> first | (simp at hv;subst hv;rfl) | (cases h;done) | simp_all))
end
end Go.Proofs.YtjkimieapfbhbaaGreatDoor
namespace Go.Proofs.YtjkimieapfbhbaaGreatDoor
open Go.RowKit
theorem zbe : Tryz.prog.cellsOf 60 = 53:=by kernel_rfl
theorem zbX : Tryz.prog.cellsOf 9 = 1:=by kernel_rfl
theorem zfy : Tryz.prog.cellsOf 3 = 1:=by kernel_rfl
theorem zgo : Tryz.prog.cellsOf 22 = 1:=by kernel_rfl
theorem ziA : Tryz.prog.cellsOf 55 = 1:=by kernel_rfl
theorem zjy : Tryz.prog.cellsOf 56 = 1:=by kernel_rfl
theorem zgm : Tryz.prog.cellsOf 57 = 1:=by kernel_rfl
theorem zjz : Tryz.prog.cellsOf 58 = 1:=by kernel_rfl
theorem zds : Tryz.prog.cellsOf 148 = 2:=by kernel_rfl
theorem zee : Tryz.prog.cellsOf 146 = 2:=by kernel_rfl
theorem zcG : Tryz.prog.cellsOf 158 = 3:=by kernel_rfl
theorem zc9 : Tryz.prog.cellsOf 62 = 4:=by kernel_rfl
theorem zaj:zcr g 6 60 = true:=by kernel_rfl
theorem zkF {l:List Value} (h:l.length=2):∃ a b,l=[a,b]:=by
 match l,h with
 | [a,b],_=>exact ⟨a,b,rfl⟩
theorem zio {l:List Value} (h:l.length=3):∃ a b c,l=[a,b,c]:=by
 match l,h with
 | [a,b,c],_=>exact ⟨a,b,c,rfl⟩
theorem zmc {l:List Value} (h:l.length=4):∃ a b c d,l=[a,b,c,d]:=by
 match l,h with
 | [a,b,c,d],_=>exact ⟨a,b,c,d,rfl⟩
section
variable {H : Type} {enc : TypeId × Value → H} {w : World} {base : Nat} {spare : Nat → Bool} {held : Bool}
theorem zg8 {fuel:Nat} {cs:List Value} {x:DataW H × List MemPlace} (h:DataW.trod enc g w base spare held fuel 22 cs=some x):∃ zs,SliceOf StrC 1 w w.heap.size cs zs:=by
 refine zaM (by decide) Tryz.underlying22 zbX (fun n ds y _ hy => ?_) h
 obtain ⟨s,rfl,_,hs⟩:=DataW.trod_string Tryz.underlying9 hy;exact ⟨s,rfl,hs⟩
theorem zi9 {fuel:Nat} {cs:List Value} {x:DataW H × List MemPlace} (h:DataW.trod enc g w base spare held fuel 148 cs=some x):∃ z,RuleC w w.heap.size cs z:=by
 obtain ⟨a,b,rfl⟩:=zkF ((zbo Tryz.underlying148 h).trans zds);obtain ⟨n0,v0,y0,e0,t0⟩:=zaE Tryz.underlying148 h 0 rfl zbX (by rw [zds];decide);obtain ⟨n1,v1,y1,e1,t1⟩:=zaE Tryz.underlying148 h 1 rfl zbX (by rw [zds];decide)
 cases e0;cases e1
 obtain ⟨s0,p0,_,q0⟩:=DataW.trod_string Tryz.underlying9 t0;obtain ⟨s1,p1,_,q1⟩:=DataW.trod_string Tryz.underlying9 t1
 cases p0;cases p1
 exact ⟨(s0,s1),rfl,q0,q1⟩
theorem zku {fuel:Nat} {cs:List Value} {x:DataW H × List MemPlace} (h:DataW.trod enc g w base spare held fuel 62 cs=some x):∃ z,SubC w w.heap.size cs z:=by
 obtain ⟨a,b,c,d,rfl⟩:=zmc ((zbo Tryz.underlying62 h).trans zc9);obtain ⟨n0,v0,y0,e0,t0⟩:=zaE Tryz.underlying62 h 0 rfl zbX (by rw [zc9];decide);obtain ⟨n1,v1,y1,e1,t1⟩:=zaE Tryz.underlying62 h 1 rfl zbX (by rw [zc9];decide);obtain ⟨n2,v2,y2,e2,t2⟩:=zaE Tryz.underlying62 h 2 rfl zbX (by rw [zc9];decide);obtain ⟨n3,v3,y3,e3,t3⟩:=zaE Tryz.underlying62 h 3 rfl zbX (by rw [zc9];decide)
 cases e0;cases e1;cases e2;cases e3
 obtain ⟨s0,p0,_,q0⟩:=DataW.trod_string Tryz.underlying9 t0;obtain ⟨s1,p1,_,q1⟩:=DataW.trod_string Tryz.underlying9 t1;obtain ⟨s2,p2,_,q2⟩:=DataW.trod_string Tryz.underlying9 t2;obtain ⟨s3,p3,_,q3⟩:=DataW.trod_string Tryz.underlying9 t3
 cases p0;cases p1;cases p2;cases p3
 exact ⟨⟨s0,s1,s2,s3⟩,rfl,q0,q1,q2,q3⟩
theorem zkc {fuel:Nat} {cs:List Value} {x:DataW H × List MemPlace} (h:DataW.trod enc g w base spare held fuel 158 cs=some x):∃ z,PubC w w.heap.size cs z:=by
 obtain ⟨a,b,c,rfl⟩:=zio ((zbo Tryz.underlying158 h).trans zcG);obtain ⟨n0,v0,y0,e0,t0⟩:=zaE Tryz.underlying158 h 0 rfl zbX (by rw [zcG];decide);obtain ⟨n1,v1,y1,e1,t1⟩:=zaE Tryz.underlying158 h 1 rfl zfy (by rw [zcG];decide);obtain ⟨n2,v2,y2,e2,t2⟩:=zaE Tryz.underlying158 h 2 rfl zfy (by rw [zcG];decide)
 cases e0;cases e1;cases e2
 obtain ⟨s0,p0,_,q0⟩:=DataW.trod_string Tryz.underlying9 t0;obtain ⟨s1,p1,_,q1⟩:=DataW.trod_int Tryz.underlying3 t1;obtain ⟨s2,p2,_,q2⟩:=DataW.trod_int Tryz.underlying3 t2
 cases p0;cases p1;cases p2
 exact ⟨s0,_,_,rfl,q0⟩
theorem zkq {fuel:Nat} {cs:List Value} {x:DataW H × List MemPlace} (h:DataW.trod enc g w base spare held fuel 146 cs=some x):∃ z,SetC w w.heap.size cs z:=by
 obtain ⟨a,b,rfl⟩:=zkF ((zbo Tryz.underlying146 h).trans zee);obtain ⟨n0,v0,y0,e0,t0⟩:=zaE Tryz.underlying146 h 0 rfl zbX (by rw [zee];decide);obtain ⟨n1,v1,y1,e1,t1⟩:=zaE Tryz.underlying146 h 1 rfl zgo (by rw [zee];decide)
 cases e0;cases e1
 obtain ⟨s0,p0,_,q0⟩:=DataW.trod_string Tryz.underlying9 t0;obtain ⟨zs,hz⟩:=zg8 t1
 cases p0
 exact ⟨(s0,zs),_,rfl,q0,hz⟩
theorem zeE {fuel:Nat} {cs:List Value} {x:DataW H × List MemPlace} (h:DataW.trod enc g w base spare held fuel 60 cs=some x):∃ r,RelayC w w.heap.size cs r:=by
 have hlen:=(zbo Tryz.underlying60 h).trans zbe;have hone:=ziq _ _ _ _ _ zaj h;obtain ⟨n0,v0,y0,e0,t0⟩:=zaE Tryz.underlying60 h 0 rfl zbX (by rw [zbe];decide);obtain ⟨n1,v1,y1,e1,t1⟩:=zaE Tryz.underlying60 h 1 rfl zfy (by rw [zbe];decide);obtain ⟨n2,v2,y2,e2,t2⟩:=zaE Tryz.underlying60 h 22 rfl ziA (by rw [zbe];decide);obtain ⟨n3,v3,y3,e3,t3⟩:=zaE Tryz.underlying60 h 23 rfl zjy (by rw [zbe];decide);obtain ⟨n4,v4,y4,e4,t4⟩:=zaE Tryz.underlying60 h 24 rfl zgm (by rw [zbe];decide);obtain ⟨n5,v5,y5,e5,t5⟩:=zaE Tryz.underlying60 h 25 rfl zjz (by rw [zbe];decide);obtain ⟨s0,p0,_,q0⟩:=DataW.trod_string Tryz.underlying9 t0;obtain ⟨s1,p1,_,q1⟩:=DataW.trod_int Tryz.underlying3 t1;obtain ⟨rs,hrs⟩:=zaM (R:=RuleC) (by decide) Tryz.underlying55 zds (fun n ds y _ hy=>zi9 hy) t2;obtain ⟨ss,hss⟩:=zaM (R:=SetC) (by decide) Tryz.underlying56 zee (fun n ds y _ hy=>zkq hy) t3;obtain ⟨ps,hps⟩:=zaM (R:=PubC) (by decide) Tryz.underlying57 zcG (fun n ds y _ hy=>zkc hy) t4;obtain ⟨us,hus⟩:=zaM (R:=SubC) (by decide) Tryz.underlying58 zc9 (fun n ds y _ hy=>zku hy) t5
 cases p0;cases p1
 exact ⟨⟨s0,s1,rs,ss,ps,us⟩,hlen,hone,e0,q0,e1,⟨_,e2,hrs⟩,⟨_,e3,hss⟩,⟨_,e4,hps⟩,⟨_,e5,hus⟩⟩
end
theorem zcF : Tryz.prog.cellsOf 30 = 6:=by kernel_rfl
theorem zeo : Tryz.prog.cellsOf 28 = 1:=by kernel_rfl
theorem zhX:zcr g 6 30 = true:=by kernel_rfl
theorem zlW {l:List Value} (h:l.length=6):∃ a b c d e f,l=[a,b,c,d,e,f]:=by
 match l,h with
 | [a,b,c,d,e,f],_=>exact ⟨a,b,c,d,e,f,rfl⟩
section
variable {H : Type} {enc : TypeId × Value → H} {w : World} {base : Nat} {spare : Nat → Bool} {held : Bool}
theorem conf_trod {fuel:Nat} {cs:List Value} {x:DataW H × List MemPlace} (h:DataW.trod enc g w base spare held fuel 30 cs=some x) :
 ∃ (a0 a1 a2 a3 a4:Value) (A:Option Addr) (c:Nat) (rs:List RelayM),cs=[a0,a1,a2,a3,a4,u A rs.length c]∧Conf w w.heap.size a0 a1 a2 a3 a4 A c rs:=by
 have hone:=ziq _ _ _ _ _ zhX h;obtain ⟨a0,a1,a2,a3,a4,a5,rfl⟩:=zlW ((zbo Tryz.underlying30 h).trans zcF);obtain ⟨n0,v0,y0,e0,t0⟩:=zaE Tryz.underlying30 h 1 rfl zeo (by rw [zcF];decide)
 cases e0
 obtain ⟨rs,A,c,e1,h1,h2,h3⟩:=zaM (R:=RelayC) (by decide) Tryz.underlying28 zbe (fun n ds y _ hy=>zeE hy) t0
 cases e1
 exact ⟨a0,a1,a2,a3,a4,A,c,rs,rfl,⟨hone a0 (by simp),hone a1 (by simp),hone a2 (by simp),hone a3 (by simp),hone a4 (by simp)⟩,⟨h1,h2⟩,h3⟩
end
set_option maxRecDepth 100000
set_option maxHeartbeats 8000000
section
variable {H : Type} {enc : TypeId × Value → H} {P : Program} {w : World} {base : Nat} {spare : Nat → Bool} {held : Bool}
def zdg (P:Program):Nat→TypeId→Nat→TypeId
 | 0,t,_=>t
 | d+1,t,j=>match P.underlying t with
   | some (.struct fs)=>match fs.toList.find? (fun f=>decide (f.offset≤j) && decide (j<f.offset+P.cellsOf f.type)) with
     | some f=>zdg P d f.type (j-f.offset)
     | Option.none=>t
   | some (.array _ e)=>zdg P d e (j % P.cellsOf e)
   | _=>t
theorem zeN:∀ (d:Nat) (t:TypeId) (fuel:Nat) (cs:List Value) (x:DataW H × List MemPlace),zcr P d t=true→DataW.trod enc P w base spare held fuel t cs=some x →
 ∀ j v,cs[j]? = some v→∃ n y,DataW.trod enc P w base spare held n (zdg P d t j) [v]=some y:=by
 intro d
 induction d with
 | zero=>intro t fuel cs x ht;simp [zcr] at ht
 | succ d ih =>
   intro t fuel cs x htl h j v hj
   cases hu:P.underlying t with
   | none =>
     cases fuel with
     | zero=>simp [DataW.trod] at h
     | succ n=>unfold DataW.trod at h;rw [hu] at h;simp at h
   | some desc =>
     by_cases hs:∃ fs,desc = .struct fs
     · obtain ⟨fs,rfl⟩:=hs
       simp only [zcr,hu,Bool.and_eq_true,beq_iff_eq,List.all_eq_true] at htl
       obtain ⟨xs,n,_,_,hlen,hxl,hg⟩:=DataW.trod_struct hu h
       have hjl:j<P.cellsOf t:=by have:=(List.getElem?_eq_some_iff.1 hj).1;omega
       have hmem:j∈fs.toList.flatMap fun f=>(List.range (P.cellsOf f.type)).map (f.offset + ·):=by rw [htl.1];simpa using hjl
       cases hf:fs.toList.find? (fun f=>decide (f.offset≤j) && decide (j<f.offset+P.cellsOf f.type)) with
       | none =>
         rw [List.find?_eq_none] at hf
         obtain ⟨f,hfm,hjf⟩:=List.mem_flatMap.1 hmem
         obtain ⟨i,hi,rfl⟩:=List.mem_map.1 hjf
         have hi':i<P.cellsOf f.type:=by simpa using hi
         have:=hf f hfm
         simp at this
         omega
       | some f =>
         have hfm:=List.mem_of_find?_eq_some hf
         have hfj:=List.find?_some hf
         simp only [Bool.and_eq_true,decide_eq_true_eq] at hfj
         obtain ⟨k,hk⟩:=F hfm
         have hk':fs[k]? = some f:=by simpa using hk
         have hkl:k<fs.size:=(Array.getElem?_eq_some_iff.1 hk').1
         have hgk:=hg k f hk'
         rw [C (by omega)] at hgk
         have:=ih f.type n _ _ (htl.2 f hfm) hgk (j-f.offset) v (by
          rw [List.getElem?_take_of_lt (by omega),List.getElem?_drop,show f.offset+(j-f.offset)=j by omega]
          exact hj)
         simpa only [zdg,hu,hf] using this
     · by_cases ha:∃ n e,desc = .array n e
       · obtain ⟨n,e,rfl⟩:=ha
         simp only [zcr,hu,Bool.and_eq_true,beq_iff_eq] at htl
         cases fuel with
         | zero=>simp [DataW.trod] at h
         | succ fu =>
           unfold DataW.trod at h
           rw [hu] at h
           simp only at h
           split at h
           · rename_i hcl
             cases hm:(List.range n).mapM fun i=>DataW.trod enc P w base spare held fu e ((cs.drop (i*P.cellsOf e)).take (P.cellsOf e)) with
             | none=>rw [hm] at h;simp at h
             | some ys =>
               obtain ⟨hyl,hyp⟩:=zdF _ _ _ hm
               have hjl:j<n*P.cellsOf e:=by have:=(List.getElem?_eq_some_iff.1 hj).1;omega
               have hc0:0<P.cellsOf e:=by
                rcases Nat.eq_zero_or_pos (P.cellsOf e) with h0 | h0
                · rw [h0] at hjl;simp at hjl
                · exact h0
               have hq:j / P.cellsOf e<n:=Nat.div_lt_of_lt_mul (by rw [Nat.mul_comm];exact hjl)
               have hq2:=hyp (j / P.cellsOf e) (j / P.cellsOf e) (by simp [List.getElem?_range hq])
               rw [C (by simp at hyl;omega)] at hq2
               have hr:=Nat.mod_lt j hc0
               have:=ih e fu _ _ htl.2 hq2 (j % P.cellsOf e) v (by
                rw [List.getElem?_take_of_lt hr,List.getElem?_drop,Nat.div_add_mod']
                exact hj)
               simpa only [zdg,hu] using this
           · cases h
       · have hone:zdg P (d+1) t j=t:=by
          simp only [zdg,hu]
          cases desc <;> first | rfl | exact absurd ⟨_,rfl⟩ hs | exact absurd ⟨_,_,rfl⟩ ha
         rw [hone]
         have hcs:cs=[v]:=by
          cases fuel with
          | zero=>simp [DataW.trod] at h
          | succ n =>
            unfold DataW.trod at h
            rw [hu] at h
            cases desc <;> first | exact absurd ⟨_,rfl⟩ hs | exact absurd ⟨_,_,rfl⟩ ha | skip
            all_goals (simp only at h;first | (cases h;done) | (split at h <;> first | (cases j <;> simp at hj;subst hj;rfl) | (cases h;done) | simp_all))
         rw [← hcs]
         exact ⟨fuel,x,h⟩
theorem zan {d j:Nat} {t ti:TypeId} {fuel:Nat} {cs:List Value} {x:DataW H × List MemPlace} {v:Value} (ht:zcr P d t=true) (hti:P.underlying ti=some (.int .i64)) (hl:zdg P d t j=ti) (h:DataW.trod enc P w base spare held fuel t cs=some x) (hj:cs[j]? = some v):∃ n,v = .int .i64 n:=by
 obtain ⟨n,y,hy⟩:=zeN d t fuel cs x ht h j v hj;rw [hl] at hy;obtain ⟨m,e,_⟩:=DataW.trod_int hti hy
 cases e
 exact ⟨m,rfl⟩
theorem zbl {d j:Nat} {t ti:TypeId} {fuel:Nat} {cs:List Value} {x:DataW H × List MemPlace} {v:Value} (ht:zcr P d t=true) (hti:P.underlying ti=some .bool) (hl:zdg P d t j=ti) (h:DataW.trod enc P w base spare held fuel t cs=some x) (hj:cs[j]? = some v):∃ n,v = .bool n:=by
 obtain ⟨n,y,hy⟩:=zeN d t fuel cs x ht h j v hj;rw [hl] at hy;obtain ⟨m,e,_⟩:=DataW.trod_bool hti hy
 cases e
 exact ⟨m,rfl⟩
theorem zdx {d j:Nat} {t ti:TypeId} {fuel:Nat} {cs:List Value} {x:DataW H × List MemPlace} {v:Value} (ht:zcr P d t=true) (hti:P.underlying ti=some .string) (hl:zdg P d t j=ti) (h:DataW.trod enc P w base spare held fuel t cs=some x) (hj:cs[j]? = some v):∃ n:ByteArray,v = E n∧n.size≤maxLen:=by
 obtain ⟨n,y,hy⟩:=zeN d t fuel cs x ht h j v hj;rw [hl] at hy;obtain ⟨m,e,_,hs⟩:=DataW.trod_string hti hy
 cases e
 exact ⟨m,rfl,hs⟩
end
theorem list5 {l:List Value} (h:l.length=5):∃ v0 v1 v2 v3 v4,l=[v0,v1,v2,v3,v4]:=by
 match l,h with
 | [v0,v1,v2,v3,v4],_=>exact ⟨v0,v1,v2,v3,v4,rfl⟩
theorem list6 {l:List Value} (h:l.length=6):∃ v0 v1 v2 v3 v4 v5,l=[v0,v1,v2,v3,v4,v5]:=by
 match l,h with
 | [v0,v1,v2,v3,v4,v5],_=>exact ⟨v0,v1,v2,v3,v4,v5,rfl⟩
theorem list12 {l:List Value} (h:l.length=12):∃ v0 v1 v2 v3 v4 v5 v6 v7 v8 v9 v10 v11,l=[v0,v1,v2,v3,v4,v5,v6,v7,v8,v9,v10,v11]:=by
 match l,h with
 | [v0,v1,v2,v3,v4,v5,v6,v7,v8,v9,v10,v11],_=>exact ⟨v0,v1,v2,v3,v4,v5,v6,v7,v8,v9,v10,v11,rfl⟩
theorem zas {l:List Value} {n:Nat} (h:l.length=n+1):∃ a t,l=a::t∧t.length=n:=by
 cases l with
 | nil=>simp at h
 | cons a t=>exact ⟨a,t,rfl,by simpa using h⟩
theorem list53 {l:List Value} (h:l.length=53):∃ v0 v1 v2 v3 v4 v5 v6 v7 v8 v9 v10 v11 v12 v13 v14 v15 v16 v17 v18 v19 v20 v21 v22 v23 v24 v25 v26 v27 v28 v29 v30 v31 v32 v33 v34 v35 v36 v37 v38 v39 v40 v41 v42 v43 v44 v45 v46 v47 v48 v49 v50 v51 v52,l=[v0,v1,v2,v3,v4,v5,v6,v7,v8,v9,v10,v11,v12,v13,v14,v15,v16,v17,v18,v19,v20,v21,v22,v23,v24,v25,v26,v27,v28,v29,v30,v31,v32,v33,v34,v35,v36,v37,v38,v39,v40,v41,v42,v43,v44,v45,v46,v47,v48,v49,v50,v51,v52]:=by
 obtain ⟨v0,l0,e0,h0⟩:=zas h;obtain ⟨v1,l1,e1,h1⟩:=zas h0;obtain ⟨v2,l2,e2,h2⟩:=zas h1;obtain ⟨v3,l3,e3,h3⟩:=zas h2;obtain ⟨v4,l4,e4,h4⟩:=zas h3;obtain ⟨v5,l5,e5,h5⟩:=zas h4;obtain ⟨v6,l6,e6,h6⟩:=zas h5;obtain ⟨v7,l7,e7,h7⟩:=zas h6;obtain ⟨v8,l8,e8,h8⟩:=zas h7;obtain ⟨v9,l9,e9,h9⟩:=zas h8;obtain ⟨v10,l10,e10,h10⟩:=zas h9;obtain ⟨v11,l11,e11,h11⟩:=zas h10;obtain ⟨v12,l12,e12,h12⟩:=zas h11;obtain ⟨v13,l13,e13,h13⟩:=zas h12;obtain ⟨v14,l14,e14,h14⟩:=zas h13;obtain ⟨v15,l15,e15,h15⟩:=zas h14;obtain ⟨v16,l16,e16,h16⟩:=zas h15;obtain ⟨v17,l17,e17,h17⟩:=zas h16;obtain ⟨v18,l18,e18,h18⟩:=zas h17;obtain ⟨v19,l19,e19,h19⟩:=zas h18;obtain ⟨v20,l20,e20,h20⟩:=zas h19;obtain ⟨v21,l21,e21,h21⟩:=zas h20;obtain ⟨v22,l22,e22,h22⟩:=zas h21;obtain ⟨v23,l23,e23,h23⟩:=zas h22;obtain ⟨v24,l24,e24,h24⟩:=zas h23;obtain ⟨v25,l25,e25,h25⟩:=zas h24;obtain ⟨v26,l26,e26,h26⟩:=zas h25;obtain ⟨v27,l27,e27,h27⟩:=zas h26;obtain ⟨v28,l28,e28,h28⟩:=zas h27;obtain ⟨v29,l29,e29,h29⟩:=zas h28;obtain ⟨v30,l30,e30,h30⟩:=zas h29;obtain ⟨v31,l31,e31,h31⟩:=zas h30;obtain ⟨v32,l32,e32,h32⟩:=zas h31;obtain ⟨v33,l33,e33,h33⟩:=zas h32;obtain ⟨v34,l34,e34,h34⟩:=zas h33;obtain ⟨v35,l35,e35,h35⟩:=zas h34;obtain ⟨v36,l36,e36,h36⟩:=zas h35;obtain ⟨v37,l37,e37,h37⟩:=zas h36;obtain ⟨v38,l38,e38,h38⟩:=zas h37;obtain ⟨v39,l39,e39,h39⟩:=zas h38;obtain ⟨v40,l40,e40,h40⟩:=zas h39;obtain ⟨v41,l41,e41,h41⟩:=zas h40;obtain ⟨v42,l42,e42,h42⟩:=zas h41;obtain ⟨v43,l43,e43,h43⟩:=zas h42;obtain ⟨v44,l44,e44,h44⟩:=zas h43;obtain ⟨v45,l45,e45,h45⟩:=zas h44;obtain ⟨v46,l46,e46,h46⟩:=zas h45;obtain ⟨v47,l47,e47,h47⟩:=zas h46;obtain ⟨v48,l48,e48,h48⟩:=zas h47;obtain ⟨v49,l49,e49,h49⟩:=zas h48;obtain ⟨v50,l50,e50,h50⟩:=zas h49;obtain ⟨v51,l51,e51,h51⟩:=zas h50;obtain ⟨v52,l52,e52,h52⟩:=zas h51;have e:=List.length_eq_zero_iff.1 h52;exact ⟨v0,v1,v2,v3,v4,v5,v6,v7,v8,v9,v10,v11,v12,v13,v14,v15,v16,v17,v18,v19,v20,v21,v22,v23,v24,v25,v26,v27,v28,v29,v30,v31,v32,v33,v34,v35,v36,v37,v38,v39,v40,v41,v42,v43,v44,v45,v46,v47,v48,v49,v50,v51,v52,by rw [e0,e1,e2,e3,e4,e5,e6,e7,e8,e9,e10,e11,e12,e13,e14,e15,e16,e17,e18,e19,e20,e21,e22,e23,e24,e25,e26,e27,e28,e29,e30,e31,e32,e33,e34,e35,e36,e37,e38,e39,e40,e41,e42,e43,e44,e45,e46,e47,e48,e49,e50,e51,e52,e]⟩
theorem zgk : Tryz.prog.cellsOf 119 = 5:=by kernel_rfl
theorem zc7:zcr g 6 119 = true:=by kernel_rfl
theorem zep : Tryz.prog.cellsOf 122 = 6:=by kernel_rfl
theorem zbU:zcr g 6 122 = true:=by kernel_rfl
theorem zfx : Tryz.prog.cellsOf 113 = 12:=by kernel_rfl
theorem zbN:zcr g 6 113 = true:=by kernel_rfl
theorem zgl : Tryz.prog.cellsOf 179 = 2:=by kernel_rfl
theorem zhd:zcr g 6 179 = true:=by kernel_rfl
theorem zbD : Tryz.prog.cellsOf 27 = 5:=by kernel_rfl
theorem zhe:zcr g 6 27 = true:=by kernel_rfl
theorem zix : Tryz.prog.cellsOf 23 = 1:=by kernel_rfl
theorem zgn : Tryz.prog.cellsOf 24 = 1:=by kernel_rfl
theorem zjx : Tryz.prog.cellsOf 25 = 1:=by kernel_rfl
theorem ziy : Tryz.prog.cellsOf 111 = 1:=by kernel_rfl
section
variable {H : Type} {enc : TypeId × Value → H} {w : World} {base : Nat} {spare : Nat → Bool} {held : Bool}
theorem ziT {fuel:Nat} {cs:List Value} {x:DataW H × List MemPlace} (h:DataW.trod enc g w base spare held fuel 179 cs=some x):∃ z,LinkC w w.heap.size cs z:=by
 obtain ⟨v0,v1,rfl⟩:=zkF ((zbo Tryz.underlying179 h).trans zgl);obtain ⟨a,rfl⟩:=zan zhd Tryz.underlying3 (j:=0) (by kernel_rfl) h rfl;obtain ⟨b,rfl⟩:=zan zhd Tryz.underlying3 (j:=1) (by kernel_rfl) h rfl;exact ⟨(a,b),rfl⟩
theorem ziS {fuel:Nat} {cs:List Value} {x:DataW H × List MemPlace} (h:DataW.trod enc g w base spare held fuel 119 cs=some x):∃ z,LineC w w.heap.size cs z:=by
 obtain ⟨v0,v1,v2,v3,v4,rfl⟩:=list5 ((zbo Tryz.underlying119 h).trans zgk);obtain ⟨n,rfl,s0⟩:=zdx zc7 Tryz.underlying9 (j:=0) (by kernel_rfl) h rfl;obtain ⟨a,rfl⟩:=zan zc7 Tryz.underlying3 (j:=1) (by kernel_rfl) h rfl;obtain ⟨b,rfl⟩:=zan zc7 Tryz.underlying3 (j:=2) (by kernel_rfl) h rfl;obtain ⟨c,rfl⟩:=zan zc7 Tryz.underlying3 (j:=3) (by kernel_rfl) h rfl;obtain ⟨d,rfl⟩:=zan zc7 Tryz.underlying3 (j:=4) (by kernel_rfl) h rfl;exact ⟨⟨n,a,b,c,d⟩,rfl,s0⟩
theorem zg4 {fuel:Nat} {cs:List Value} {x:DataW H × List MemPlace} (h:DataW.trod enc g w base spare held fuel 122 cs=some x):∃ z,SourceC w w.heap.size cs z:=by
 obtain ⟨v0,v1,v2,v3,v4,v5,rfl⟩:=list6 ((zbo Tryz.underlying122 h).trans zep);obtain ⟨n,rfl,s0⟩:=zdx zbU Tryz.underlying9 (j:=0) (by kernel_rfl) h rfl;obtain ⟨e,rfl⟩:=zan zbU Tryz.underlying3 (j:=1) (by kernel_rfl) h rfl;obtain ⟨a,rfl⟩:=zan zbU Tryz.underlying3 (j:=2) (by kernel_rfl) h rfl;obtain ⟨b,rfl⟩:=zan zbU Tryz.underlying3 (j:=3) (by kernel_rfl) h rfl;obtain ⟨c,rfl⟩:=zan zbU Tryz.underlying3 (j:=4) (by kernel_rfl) h rfl;obtain ⟨d,rfl⟩:=zan zbU Tryz.underlying3 (j:=5) (by kernel_rfl) h rfl;exact ⟨⟨n,e,a,b,c,d⟩,rfl,s0⟩
theorem zju {fuel:Nat} {cs:List Value} {x:DataW H × List MemPlace} (h:DataW.trod enc g w base spare held fuel 113 cs=some x):∃ z,BayC w w.heap.size cs z:=by
 obtain ⟨v0,v1,v2,v3,v4,v5,v6,v7,v8,v9,v10,v11,rfl⟩:=list12 ((zbo Tryz.underlying113 h).trans zfx);obtain ⟨n,rfl,s0⟩:=zdx zbN Tryz.underlying9 (j:=0) (by kernel_rfl) h rfl;obtain ⟨k,rfl⟩:=zan zbN Tryz.underlying3 (j:=1) (by kernel_rfl) h rfl;obtain ⟨f,rfl⟩:=zan zbN Tryz.underlying3 (j:=2) (by kernel_rfl) h rfl;obtain ⟨e,rfl⟩:=zan zbN Tryz.underlying3 (j:=3) (by kernel_rfl) h rfl;obtain ⟨zr,rfl⟩:=zan zbN Tryz.underlying3 (j:=4) (by kernel_rfl) h rfl;obtain ⟨zx,rfl⟩:=zan zbN Tryz.underlying3 (j:=5) (by kernel_rfl) h rfl;obtain ⟨cl,rfl⟩:=zbl zbN Tryz.underlying4 (j:=7) (by kernel_rfl) h rfl;obtain ⟨ct,rfl⟩:=zan zbN Tryz.underlying3 (j:=8) (by kernel_rfl) h rfl;obtain ⟨vt,rfl⟩:=zan zbN Tryz.underlying3 (j:=9) (by kernel_rfl) h rfl;obtain ⟨sa,rfl⟩:=zan zbN Tryz.underlying3 (j:=10) (by kernel_rfl) h rfl;obtain ⟨tr,rfl⟩:=zan zbN Tryz.underlying3 (j:=11) (by kernel_rfl) h rfl;obtain ⟨n0,v0,y0,e0,t0⟩:=zaE Tryz.underlying113 h 5 rfl ziy (by rw [zfx];decide);obtain ⟨ls,A,c,e1,h1,h2,h3⟩:=zaM (R:=LinkC) (by decide) Tryz.underlying111 zgl (fun n ds y _ hy=>ziT hy) t0
 cases e1
 cases e0
 exact ⟨⟨n,k,f,e,zr,zx,ls,cl,ct,vt,sa,tr⟩,A,c,rfl,s0,h1,h2,h3⟩
theorem ziY {fuel:Nat} {cs:List Value} {x:DataW H × List MemPlace} (h:DataW.trod enc g w base spare held fuel 158 cs=some x):∃ z,PubNC w w.heap.size cs z:=by
 obtain ⟨v0,v1,v2,rfl⟩:=zio ((zbo Tryz.underlying158 h).trans zcG);have tilesPub:zcr g 6 158 = true:=by kernel_rfl
 obtain ⟨n,rfl,s0⟩:=zdx tilesPub Tryz.underlying9 (j:=0) (by kernel_rfl) h rfl;obtain ⟨a,rfl⟩:=zan tilesPub Tryz.underlying3 (j:=1) (by kernel_rfl) h rfl;obtain ⟨b,rfl⟩:=zan tilesPub Tryz.underlying3 (j:=2) (by kernel_rfl) h rfl;exact ⟨⟨n,a,b⟩,rfl,s0⟩
theorem zlp {w:World} {B:Nat} {v:Value} {ps:List ByteArray} {qs:List PubN} (h1:SliceOf PubC 3 w B [v] ps) (h2:SliceOf PubNC 3 w B [v] qs):ps=qs.map (·.set):=by
 obtain ⟨A,c,e,-,-,h⟩:=h1;obtain ⟨A2,c2,e2,-,-,h'⟩:=h2;rw [e] at e2;injection e2 with e2
 injection e2 with eA eL eC
 subst eA;refine List.ext_getElem? fun k => ?_
 rcases Nat.lt_or_ge k ps.length with hk | hk
 · obtain ⟨b,o,cs,x,rfl,-,hx,hl,⟨p,q,rfl,-⟩,hat⟩:=h.at_ hk
   have hk':k<qs.length:=by have:=h'.1;omega
   obtain ⟨b',o',cs',y,e',-,hy,hl',⟨rfl,-⟩,hat'⟩:=h'.at_ (k:=k) (by omega)
   cases e'
   have a1:=hat 0 _ rfl
   have a2:=hat' 0 _ rfl
   rw [a1] at a2
   injection a2 with a2
   injection a2 with a2
   rw [hx,List.getElem?_map,hy,a2];rfl
 · rw [J hk,J (by have:=h'.1;simp;omega)]
theorem zgL {fuel:Nat} {cs:List Value} {x:DataW H × List MemPlace} (h:DataW.trod enc g w base spare held fuel 60 cs=some x):∃ z,RelayXC w w.heap.size cs z:=by
 obtain ⟨r,hr⟩:=zeE h;obtain ⟨n4,c51,y4,e4,t4⟩:=zaE Tryz.underlying60 h 24 rfl zgm (by rw [zbe];decide);obtain ⟨qs,hqs⟩:=zaM (R:=PubNC) (by decide) Tryz.underlying57 zcG (fun n ds y _ hy=>ziY hy) t4;obtain ⟨d51,e51,hps⟩:=hr.pubs;have e4':cs[51]? = some c51:=e4;have hd:d51=c51:=by rw [e51] at e4';exact G e4'
 subst hd;have hm:=zlp hps hqs;have hnm:=hr.name;have hkd:=hr.kind;obtain ⟨v0,v1,v2,v3,v4,v5,v6,v7,v8,v9,v10,v11,v12,v13,v14,v15,v16,v17,v18,v19,v20,v21,v22,v23,v24,v25,v26,v27,v28,v29,v30,v31,v32,v33,v34,v35,v36,v37,v38,v39,v40,v41,v42,v43,v44,v45,v46,v47,v48,v49,v50,v51,v52,rfl⟩:=list53 ((zbo Tryz.underlying60 h).trans zbe);obtain ⟨bay,rfl⟩:=zan zaj Tryz.underlying3 (j:=2) (by kernel_rfl) h rfl;obtain ⟨zaon,rfl⟩:=zbl zaj Tryz.underlying4 (j:=3) (by kernel_rfl) h rfl;obtain ⟨zafw,rfl⟩:=zbl zaj Tryz.underlying4 (j:=4) (by kernel_rfl) h rfl;obtain ⟨zax,rfl⟩:=zan zaj Tryz.underlying3 (j:=5) (by kernel_rfl) h rfl;obtain ⟨zart,rfl⟩:=zan zaj Tryz.underlying3 (j:=6) (by kernel_rfl) h rfl;obtain ⟨zalf,rfl⟩:=zan zaj Tryz.underlying3 (j:=7) (by kernel_rfl) h rfl;obtain ⟨zadl,rfl⟩:=zan zaj Tryz.underlying3 (j:=8) (by kernel_rfl) h rfl;obtain ⟨zbon,rfl⟩:=zbl zaj Tryz.underlying4 (j:=9) (by kernel_rfl) h rfl;obtain ⟨zbfw,rfl⟩:=zbl zaj Tryz.underlying4 (j:=10) (by kernel_rfl) h rfl;obtain ⟨zbx,rfl⟩:=zan zaj Tryz.underlying3 (j:=11) (by kernel_rfl) h rfl;obtain ⟨zbrt,rfl⟩:=zan zaj Tryz.underlying3 (j:=12) (by kernel_rfl) h rfl;obtain ⟨zblf,rfl⟩:=zan zaj Tryz.underlying3 (j:=13) (by kernel_rfl) h rfl;obtain ⟨zbdl,rfl⟩:=zan zaj Tryz.underlying3 (j:=14) (by kernel_rfl) h rfl;obtain ⟨zcon,rfl⟩:=zbl zaj Tryz.underlying4 (j:=15) (by kernel_rfl) h rfl;obtain ⟨zcfw,rfl⟩:=zbl zaj Tryz.underlying4 (j:=16) (by kernel_rfl) h rfl;obtain ⟨zcx,rfl⟩:=zan zaj Tryz.underlying3 (j:=17) (by kernel_rfl) h rfl;obtain ⟨zcrt,rfl⟩:=zan zaj Tryz.underlying3 (j:=18) (by kernel_rfl) h rfl;obtain ⟨zclf,rfl⟩:=zan zaj Tryz.underlying3 (j:=19) (by kernel_rfl) h rfl;obtain ⟨zcdl,rfl⟩:=zan zaj Tryz.underlying3 (j:=20) (by kernel_rfl) h rfl;obtain ⟨mn,rfl⟩:=zan zaj Tryz.underlying3 (j:=21) (by kernel_rfl) h rfl;obtain ⟨kre,rfl⟩:=zan zaj Tryz.underlying3 (j:=22) (by kernel_rfl) h rfl;obtain ⟨kim,rfl⟩:=zan zaj Tryz.underlying3 (j:=23) (by kernel_rfl) h rfl;obtain ⟨scheme,rfl⟩:=zan zaj Tryz.underlying3 (j:=24) (by kernel_rfl) h rfl;obtain ⟨wait,rfl⟩:=zan zaj Tryz.underlying3 (j:=25) (by kernel_rfl) h rfl;obtain ⟨guard,rfl⟩:=zan zaj Tryz.underlying3 (j:=26) (by kernel_rfl) h rfl;obtain ⟨defion,rfl⟩:=zbl zaj Tryz.underlying4 (j:=27) (by kernel_rfl) h rfl;obtain ⟨defia,rfl⟩:=zan zaj Tryz.underlying3 (j:=28) (by kernel_rfl) h rfl
 obtain ⟨defib,rfl⟩:=zan zaj Tryz.underlying3 (j:=29) (by kernel_rfl) h rfl;obtain ⟨invon,rfl⟩:=zbl zaj Tryz.underlying4 (j:=30) (by kernel_rfl) h rfl;obtain ⟨inva,rfl⟩:=zan zaj Tryz.underlying3 (j:=31) (by kernel_rfl) h rfl;obtain ⟨invb,rfl⟩:=zan zaj Tryz.underlying3 (j:=32) (by kernel_rfl) h rfl;obtain ⟨failon,rfl⟩:=zbl zaj Tryz.underlying4 (j:=33) (by kernel_rfl) h rfl;obtain ⟨faila,rfl⟩:=zan zaj Tryz.underlying3 (j:=34) (by kernel_rfl) h rfl;obtain ⟨failb,rfl⟩:=zan zaj Tryz.underlying3 (j:=35) (by kernel_rfl) h rfl;obtain ⟨shots,rfl⟩:=zan zaj Tryz.underlying3 (j:=36) (by kernel_rfl) h rfl;obtain ⟨dead,rfl⟩:=zan zaj Tryz.underlying3 (j:=37) (by kernel_rfl) h rfl;obtain ⟨reclaim,rfl⟩:=zan zaj Tryz.underlying3 (j:=38) (by kernel_rfl) h rfl;obtain ⟨underon,rfl⟩:=zbl zaj Tryz.underlying4 (j:=39) (by kernel_rfl) h rfl;obtain ⟨undera,rfl⟩:=zan zaj Tryz.underlying3 (j:=40) (by kernel_rfl) h rfl;obtain ⟨underb,rfl⟩:=zan zaj Tryz.underlying3 (j:=41) (by kernel_rfl) h rfl;obtain ⟨overon,rfl⟩:=zbl zaj Tryz.underlying4 (j:=42) (by kernel_rfl) h rfl;obtain ⟨overa,rfl⟩:=zan zaj Tryz.underlying3 (j:=43) (by kernel_rfl) h rfl;obtain ⟨overb,rfl⟩:=zan zaj Tryz.underlying3 (j:=44) (by kernel_rfl) h rfl;obtain ⟨diff,rfl⟩:=zan zaj Tryz.underlying3 (j:=45) (by kernel_rfl) h rfl;obtain ⟨num,rfl⟩:=zan zaj Tryz.underlying3 (j:=46) (by kernel_rfl) h rfl;obtain ⟨den,rfl⟩:=zan zaj Tryz.underlying3 (j:=47) (by kernel_rfl) h rfl;obtain ⟨harm,rfl⟩:=zan zaj Tryz.underlying3 (j:=48) (by kernel_rfl) h rfl;have hnm':v0 = E r.name:=G hnm;have hkd':v1 = .int .i64 r.kind:=G hkd;subst hnm' hkd';exact ⟨⟨r,⟨bay,⟨zaon,zafw,zax,zart,zalf,zadl⟩,⟨zbon,zbfw,zbx,zbrt,zblf,zbdl⟩,⟨zcon,zcfw,zcx,zcrt,zclf,zcdl⟩,mn,kre,kim,scheme,wait,guard,⟨defion,defia,defib⟩,⟨invon,inva,invb⟩,⟨failon,faila,failb⟩,shots,dead,reclaim,⟨underon,undera,underb⟩,⟨overon,overa,overb⟩,diff,num,den,harm⟩,qs⟩,hr,⟨_,e51,hqs⟩,hm,_,_,_,_,rfl⟩
structure ConfX (w:World) (B:Nat) (p:StAt) (S:StatM) (A:Option Addr) (c:Nat) (xs:List RelayX):Prop where
 st:StC w B p S
 cap:xs.length≤c∧c≤maxLen
 rows:Rws RelayXC 53 w B A xs.length xs
theorem ConfX.mono {w w':World} {B B':Nat} {p:StAt} {S:StatM} {A:Option Addr} {c:Nat} {xs:List RelayX} (h:ConfX w B p S A c xs) (hB:B≤B') (hb:Below B w w'):ConfX w' B' p S A c xs:=
 ⟨h.st.mono hB hb,h.cap,h.rows.mono RelayXC.mono hB hb⟩
def zap (xs:List RelayX):List RelayM:=xs.map (·.r)
theorem zaL (xs:List RelayX):(zap xs).length=xs.length:=List.length_map ..
theorem ConfX.conf {w:World} {B:Nat} {p:StAt} {S:StatM} {A:Option Addr} {c:Nat} {xs:List RelayX} (h:ConfX w B p S A c xs) :
 Conf w B (E S.name) (u p.A1 S.buses.length p.c1) (u p.A2 S.lines.length p.c2) (u p.A3 S.sources.length p.c3) (u p.A4 S.bays.length p.c4) A c (zap xs):=
 ⟨⟨rfl,rfl,rfl,rfl,rfl⟩,by rw [zaL];exact h.cap,by rw [zaL];exact h.rows.map fun cs x hx=>hx.base⟩
theorem zg5 {fuel:Nat} {cs:List Value} {x:DataW H × List MemPlace} (h:DataW.trod enc g w base spare held fuel 27 cs=some x) :
 ∃ (p:StAt) (S:StatM),cs=[E S.name,u p.A1 S.buses.length p.c1,u p.A2 S.lines.length p.c2,u p.A3 S.sources.length p.c3,u p.A4 S.bays.length p.c4]∧StC w w.heap.size p S:=by
 obtain ⟨v0,v1,v2,v3,v4,rfl⟩:=list5 ((zbo Tryz.underlying27 h).trans zbD);obtain ⟨n,rfl,s0⟩:=zdx zhe Tryz.underlying9 (j:=0) (by kernel_rfl) h rfl;obtain ⟨n1,u1,y1,e1,t1⟩:=zaE Tryz.underlying27 h 1 rfl zgo (by rw [zbD];decide);obtain ⟨n2,u2,y2,e2,t2⟩:=zaE Tryz.underlying27 h 2 rfl zix (by rw [zbD];decide);obtain ⟨n3,u3,y3,e3,t3⟩:=zaE Tryz.underlying27 h 3 rfl zgn (by rw [zbD];decide);obtain ⟨n4,u4,y4,e4,t4⟩:=zaE Tryz.underlying27 h 4 rfl zjx (by rw [zbD];decide);obtain ⟨bs,A1,c1,q1,h11,h12,h13⟩:=zg8 t1;obtain ⟨ls,A2,c2,q2,h21,h22,h23⟩:=zaM (R:=LineC) (by decide) Tryz.underlying23 zgk (fun n ds y _ hy=>ziS hy) t2;obtain ⟨ss,A3,c3,q3,h31,h32,h33⟩:=zaM (R:=SourceC) (by decide) Tryz.underlying24 zep (fun n ds y _ hy=>zg4 hy) t3;obtain ⟨ys,A4,c4,q4,h41,h42,h43⟩:=zaM (R:=BayC) (by decide) Tryz.underlying25 zfx (fun n ds y _ hy=>zju hy) t4
 cases q1;cases q2;cases q3;cases q4
 cases e1;cases e2;cases e3;cases e4
 exact ⟨⟨A1,A2,A3,A4,c1,c2,c3,c4⟩,⟨n,bs,ls,ss,ys⟩,rfl,s0,⟨h11,h12⟩,⟨h21,h22⟩,⟨h31,h32⟩,⟨h41,h42⟩,h13,h23,h33,h43⟩
theorem ziE {fuel:Nat} {cs:List Value} {x:DataW H × List MemPlace} (h:DataW.trod enc g w base spare held fuel 30 cs=some x) :
 ∃ (p:StAt) (S:StatM) (A:Option Addr) (c:Nat) (xs:List RelayX),cs=[E S.name,u p.A1 S.buses.length p.c1,u p.A2 S.lines.length p.c2,u p.A3 S.sources.length p.c3,u p.A4 S.bays.length p.c4,u A xs.length c]∧ConfX w w.heap.size p S A c xs:=by
 obtain ⟨a0,a1,a2,a3,a4,a5,rfl⟩:=zlW ((zbo Tryz.underlying30 h).trans zcF);obtain ⟨n0,v0,y0,e0,t0⟩:=zaE Tryz.underlying30 h 1 rfl zeo (by rw [zcF];decide)
 cases e0
 obtain ⟨xs,n,_,_,hlen,hxl,hg⟩:=DataW.trod_struct Tryz.underlying30 h;have hg0:=hg 0 _ rfl;rw [C (by rw [hxl];decide)] at hg0;obtain ⟨p,S,e1,hS⟩:=zg5 hg0;have e1':List.take (Tryz.prog.cellsOf 27) [a0,a1,a2,a3,a4,a5]=_:=e1;rw [zbD] at e1'
 cases e1'
 obtain ⟨rs,A,c,e2,h1,h2,h3⟩:=zaM (R:=RelayXC) (by decide) Tryz.underlying28 zbe (fun n ds y _ hy=>zgL hy) t0
 cases e2
 exact ⟨p,S,A,c,rs,rfl,hS,⟨h1,h2⟩,h3⟩
end
end Go.Proofs.YtjkimieapfbhbaaGreatDoor
