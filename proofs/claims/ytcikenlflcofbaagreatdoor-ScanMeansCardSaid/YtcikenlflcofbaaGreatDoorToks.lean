/-
  The tokens of a text: equation.tokens.
-/
import Derived.Test.YtcikenlflcofbaaGreatDoorPrN
set_option maxRecDepth 100000
set_option maxHeartbeats 8000000
namespace Go.Proofs.YtcikenlflcofbaaGreatDoor
open Go.RowKit
def tokC (k:Tok):List Value:=[.int .i64 k.kind,.string ⟨k.text.toArray⟩,.int .i64 k.pos,.int .i64 k.n]
theorem zdq (t:List UInt8) (i j:Nat):ByteArray.extract ⟨t.toArray⟩ i j=⟨(cutB t i j).toArray⟩:=by
  rw [Lib.extract_eq];unfold cutB;rw [List.drop_take]
theorem zfJ (c:UInt8):∀ l:List UInt8,decide (Lib.indexByte l c<0) = !(l.contains c)
  | []=>rfl
  | b::l=>by
    have ih:=zfJ c l;have hg:=Lib.indexByte_ge l c;unfold Lib.indexByte;rw [List.contains_cons]
    by_cases h:b=c
    · subst h;simp
    · have h1:(b == c)=false:=by simp [h]
      have h2:(c == b)=false:=by simp;exact fun q=>h q.symm
      rw [h1,h2]
      simp only [Bool.false_eq_true,if_false,Bool.false_or]
      rw [← ih]
      by_cases hm:Lib.indexByte l c = -1
      · rw [hm];decide
      · have:(Lib.indexByte l c == -1)=false:=by simp [hm]
        rw [this]
        simp only [Bool.false_eq_true,if_false]
        rw [decide_eq_decide]
        omega
theorem zhx (c:UInt8) (w:World):Calls Tryz.prog 92 #[.string ⟨#[40,41,44,60,62,61,43,45]⟩,.int .u8 c.toNat] w (zdI (Lib.indexByte [40, 41, 44, 60, 62, 61, 43, 45] c) w):=by
  refine (Tryz.strings_IndexByte ⟨#[40,41,44,60,62,61,43,45]⟩ (c.toNat:Int) w).mono ?_
  rintro e w' ⟨rfl,rfl⟩
  refine ⟨?_,rfl⟩
  have:((c.toNat:Int).toNat).toUInt8=c:=by simp
  rw [this]
theorem zhi {p:UInt8→Bool} {t:List UInt8} {a j:Nat} (h1:a≤j) (h2:j<runB p t a):∃ c,t[j]? = some c∧p c=true:=by
  unfold runB at h2;have hk:j-a<((t.drop a).takeWhile p).length:=by omega
  have hm:=List.getElem_mem hk;have hp:p ((t.drop a).takeWhile p)[j-a]=true:=List.all_eq_true.1 (zbt p (t.drop a)) _ hm;refine ⟨_,?_,hp⟩
  have hx:=(List.takeWhile_prefix p (l:=t.drop a)).getElem hk
  have hd:(t.drop a)[j-a]? = some ((t.drop a).takeWhile p)[j-a]:=by
    rw [List.getElem?_eq_getElem (Nat.lt_of_lt_of_le hk (List.takeWhile_prefix p).length_le),hx]
  rw [List.getElem?_drop] at hd;rw [show a+(j-a)=j by omega] at hd;exact hd
theorem zk5 (p:UInt8→Bool):∀ (l:List UInt8) (c:UInt8),l[(l.takeWhile p).length]? = some c→p c=false
  | [],c,h=>by simp at h
  | x::l,c,h=>by
    rw [List.takeWhile_cons] at h
    cases hx:p x with
    | false=>rw [hx] at h;simp at h;rw [← h];exact hx
    | true =>
      rw [hx] at h;simp only [if_true,List.length_cons,List.getElem?_cons_succ] at h;exact zk5 p l c h
theorem zff {p:UInt8→Bool} {t:List UInt8} {a:Nat} {c:UInt8} (h:t[runB p t a]? = some c):p c=false:=by
  refine zk5 p (t.drop a) c ?_
  rw [List.getElem?_drop];exact h
theorem zbe {t:List UInt8} {j:Nat} {c:UInt8} (h:t[j]? = some c):({ data:=t.toArray }:ByteArray)[j]'(by show j<t.toArray.size;have:=(List.getElem?_eq_some_iff.1 h).1;simpa using this)=c:=by
  obtain ⟨h1,rfl⟩:=List.getElem?_eq_some_iff.1 h
  rfl
theorem zjF {wr w5:World} {k i n:Int} {sb:ByteArray} {ty:TypeId} (h:Below (wr.alloc (Obj.cells #[.int .i64 k,.string sb,.int .i64 i,.int .i64 n] ty)).heap.size (wr.alloc (Obj.cells #[.int .i64 k,.string sb,.int .i64 i,.int .i64 n] ty)) w5) :
    w5.cell? ⟨wr.heap.size,0,none⟩=some (.int .i64 k)∧w5.cell? ⟨wr.heap.size,1,none⟩=some (.string sb)∧w5.cell? ⟨wr.heap.size,2,none⟩=some (.int .i64 i)∧w5.cell? ⟨wr.heap.size,3,none⟩=some (.int .i64 n) ∧
    w5.frozen? ⟨wr.heap.size,0,none⟩=false∧w5.frozen? ⟨wr.heap.size,1,none⟩=false∧w5.frozen? ⟨wr.heap.size,2,none⟩=false∧w5.frozen? ⟨wr.heap.size,3,none⟩=false:=by
  have hh:w5.heap[wr.heap.size]? = some (Obj.cells #[.int .i64 k,.string sb,.int .i64 i,.int .i64 n] ty (0,0)):=(h.block _ (by simp)).trans (heap_alloc_new wr _);exact ⟨by simp [World.cell?,hh],by simp [World.cell?,hh],by simp [World.cell?,hh],by simp [World.cell?,hh],Lib.frozen_of_heap hh 0,Lib.frozen_of_heap hh 1,Lib.frozen_of_heap hh 2,Lib.frozen_of_heap hh 3⟩
theorem infoT:(Tryz.prog.info? 136).map (fun i=>(i.zero,i.size,i.bytes))=some (some (.agg #[.int .i64 0,.string ⟨#[]⟩,.int .i64 0,.int .i64 0]),4,40):=by kernel_rfl
theorem zdz (k:Tok):∀ u∈tokC k,u.oneCell'=true:=by
  intro u hu;simp only [tokC,List.mem_cons,List.not_mem_nil,or_false] at hu
  rcases hu with rfl | rfl | rfl | rfl <;> rfl
def zlc (t:List UInt8) (r:Except (Int × Int) (List Tok)) (w:World) (e:Ending) (w':World):Prop:=match r with
  | .error (a,er)=>zgP a er w e w'
  | .ok l=>RetRow 136 4 (l.length+1) ((l++[zan t]).flatMap tokC) w e w'
def TkR (w:World) (t:List UInt8) (f:Nat) (v iv:Value) (wr:World):Prop:=
  ∃ i acc,zbX t f i acc=za9 t∧i≤t.length∧t.length-i<f∧acc.length≤i∧iv = .int .i64 (i:Int)∧wr.ownsRow w.heap.size 136 4 v acc.length (acc.flatMap tokC)∧Below w.heap.size w wr
def EndR (W:World) (i R:Nat) (g:Nat) (v:Value) (wr:World):Prop:=∃ j,i+1≤j∧j≤R∧R-j<g∧v = .int .i64 (j:Int)∧W=wr
theorem zbL (t:List UInt8) (hl:t.length≤1000) (w:World) (hw:Lw w):Calls Tryz.prog 76 #[.string ⟨t.toArray⟩] w (zlc t (za9 t) w):=by
  obtain ⟨ti,hti,hzi⟩:=Option.map_eq_some_iff.1 infoT;obtain ⟨hz0,hz1,hz2⟩:ti.zero=some (.agg #[.int .i64 0,.string ⟨#[]⟩,.int .i64 0,.int .i64 0])∧ti.size=4∧ti.bytes=40:=by simpa using hzi
  have HTI:=Hi (And.intro hti (And.intro hz0 (And.intro hz1 hz2)));have HW:=Hi hw;clear hti hzi hz0 hz1 hz2 hw;go_enter Tryz.func76,Tryz.ntmps76;go_wp2;go_loopg [3,4] (t.length+1) (fun f v iv wr=>TkR w t f v iv wr)
  case atStart=>exact ⟨0,[],rfl,Nat.zero_le _,by omega,Nat.le_refl _,rfl,⟨rfl,.inl ⟨rfl,rfl⟩⟩,Below.refl _ _⟩
  case round =>
    obtain ⟨i,acc,hst,hi,hf,hai,rfl,hown,hbel⟩:=hrel;have hsz:=hbel.size;obtain ⟨Av,cv,rfl,hv1,hv2⟩:=zag hown
    cases gk with
    | zero=>exact absurd hf (by omega)
    | succ f =>
    unfold zbX at hst;have HOW:=Hi hown;clear hown
    by_cases hlt:i<t.length
    case neg =>
      obtain rfl:i=t.length:=by omega
      rw [List.getElem?_eq_none (Nat.le_refl _)] at hst;have HST:=Hi (show Except.ok acc=za9 t from hst);have hsrc:=Hi (zaL wr (tokC (zan t)) 136 4 1 rfl);have HM1:=Hi (show acc.length+1≤maxLen by unfold maxLen;omega);have HM2:=Hi (show (acc.length+1)*40≤140737488355328 by omega);have on1:=Hi (zdz (zan t));clear hst hlt hv1 hv2;go_wp2_with (at_builtin;refine zaI (o:=⟨some 103,_,_,_,_,_⟩) _ _ 131 rfl rfl Tryz.underlying131 HTI.out.1 HTI.out.2.1 HTI.out.2.2.1 HTI.out.2.2.2 rfl (by decide) rfl HOW.out hbel _ rfl rfl rfl on1.out HM2.out HM1.out hsz ?_;intro v2 w2 hown2 hbel2 hsz2)
      go_ret
      rw [← HST.out];refine RetRow.mk ?_ (Nat.le_refl _) hbel2
      rw [List.flatMap_append];simpa [tokC,zan] using hown2
    have hc:=List.getElem?_eq_getElem hlt;generalize hcc:t[i]=c at *;have hkb:({ data:=t.toArray }:ByteArray)[i]'(by show i<t.toArray.size;simpa using hlt)=c:=by subst hcc;rfl
    clear hcc;rw [hc] at hst;simp only [] at hst;have HC:=Hi hc;clear hc
    by_cases c1:c=32
    · subst c1
      have HST:=Hi (show zbX t f (i+1) acc=za9 t from hst)
      have d1:(((32:UInt8).toNat:Int) == 32)=true:=by decide
      clear hst
      go_wp2
      go_roundg f
      case measure=>omega
      case rel=>exact ⟨i+1,acc,HST.out,by omega,by omega,by omega,by go_num,HOW.out.alloc _,hbel.alloc hsz _⟩
    have n32:((c.toNat:Int) == 32)=false:=by
      have:c.toNat≠32:=fun q=>c1 (UInt8.toNat.inj q)
      simp;omega
    unfold zgI at hst;rw [if_neg (by simpa using c1)] at hst
    by_cases c2:zaH c=true
    · rw [if_pos c2] at hst
      obtain ⟨R,hR⟩:∃ R,runB zbh t (i+1)=R:=⟨_,rfl⟩
      have hRb:=zdx zbh t (i+1)
      rw [hR] at hst hRb
      have hR1:i+1≤R:=hRb.1
      have hR2:R≤t.length:=hRb.2 (by omega)
      have HIN:=Hi (fun j (h1:i+1≤j) (h2:j<R)=>zhi (p:=zbh) (t:=t) h1 (by rw [hR];exact h2))
      have HOUT:=Hi (fun c' (h:t[R]? = some c')=>zff (p:=zbh) (t:=t) (a:=i+1) (by rw [hR];exact h))
      have C2:=fun W=>zb1 c W
      rw [c2] at C2
      have HC2:=Hi C2
      have HST:=Hi hst
      clear C2 hst hR hRb
      go_wp2_with fail
      refine (HC2.out _).mono ?_
      rintro e' w9 ⟨rfl,rfl⟩
      go_wp2_with fail
      go_loopg [7] (R-i) (fun g v wr2=>EndR (wr.alloc (Obj.cells #[.int .i64 1,.string ⟨#[]⟩,.int .i64 (i:Int),.int .i64 0] 136)) i R g v wr2)
      case atStart=>exact ⟨i+1,Nat.le_refl _,hR1,by omega,by go_num,rfl⟩
      case round =>
        obtain ⟨j,hj1,hj2,hg,rfl,rfl⟩:=hrel
        by_cases hjR:j<R
        · obtain ⟨d,hd,hwd⟩:=HIN.out j hj1 hjR
          have Hd:=Hi hd
          have hjl:j<t.length:=by omega
          have hkb_d:({ data:=t.toArray }:ByteArray)[j]'(by show j<t.toArray.size;simpa using hjl)=d:=zbe Hd.out
          have CL:=fun W=>zb1 d W
          have CD:=fun W=>zbC d W
          unfold zbh at hwd
          clear hd
          cases hld:zaH d with
          | true =>
            rw [hld] at CL
            have HCL:=Hi CL
            clear CL CD hwd hld
            go_wp2_with fail
            refine (HCL.out _).mono ?_
            rintro e' w9 ⟨rfl,rfl⟩
            go_wp2
            go_roundg (R-j)
            case measure=>omega
            case rel=>exact ⟨j+1,by omega,by omega,by omega,by go_num,rfl⟩
          | false =>
            rw [hld] at CL hwd
            cases hdd:zaq d with
            | true =>
              rw [hdd] at CD
              have HCL:=Hi CL
              have HCD:=Hi CD
              clear CL CD hwd hld hdd
              go_wp2_with fail
              refine (HCL.out _).mono ?_
              rintro e' w9 ⟨rfl,rfl⟩
              go_wp2_with fail
              refine (HCD.out _).mono ?_
              rintro e' w9 ⟨rfl,rfl⟩
              go_wp2
              go_roundg (R-j)
              case measure=>omega
              case rel=>exact ⟨j+1,by omega,by omega,by omega,by go_num,rfl⟩
            | false =>
              rw [hdd] at CD hwd
              have h95:((d.toNat:Int) == 95)=true:=by
                have:d=95:=by simpa using hwd
                subst this
                decide
              have HCL:=Hi CL
              have HCD:=Hi CD
              clear CL CD hwd hld hdd
              go_wp2_with fail
              refine (HCL.out _).mono ?_
              rintro e' w9 ⟨rfl,rfl⟩
              go_wp2_with fail
              refine (HCD.out _).mono ?_
              rintro e' w9 ⟨rfl,rfl⟩
              go_wp2
              go_roundg (R-j)
              case measure=>omega
              case rel=>exact ⟨j+1,by omega,by omega,by omega,by go_num,rfl⟩
        · obtain rfl:j=R:=by omega
          have hst2:=HST.out
          by_cases h12:12<j-i
          · rw [if_pos h12] at hst2
            have HGO:=Hi (show Except.error ((i:Int),7)=za9 t from hst2)
            have d12:(12:Int)<(j:Int)-(i:Int):=by omega
            clear hst2 HST h12
            by_cases hjl:j<t.length
            · obtain ⟨d,hd⟩:∃ d,t[j]? = some d:=⟨_,List.getElem?_eq_getElem hjl⟩
              have hwd:=HOUT.out d hd
              have Hd:=Hi hd
              have hkb_d:({ data:=t.toArray }:ByteArray)[j]'(by show j<t.toArray.size;simpa using hjl)=d:=zbe Hd.out
              have CL:=fun W=>zb1 d W
              have CD:=fun W=>zbC d W
              unfold zbh at hwd
              simp only [Bool.or_eq_false_iff] at hwd
              rw [hwd.1.1] at CL
              rw [hwd.1.2] at CD
              have h95:((d.toNat:Int) == 95)=false:=by
                have h1:=hwd.2
                have:d≠95:=by simpa using h1
                have:d.toNat≠95:=fun q=>this (UInt8.toNat.inj q)
                simp;omega
              have HCL:=Hi CL
              have HCD:=Hi CD
              clear CL CD hwd hd
              go_wp2_with fail
              refine (HCL.out _).mono ?_
              rintro e' w9 ⟨rfl,rfl⟩
              go_wp2_with fail
              refine (HCD.out _).mono ?_
              rintro e' w9 ⟨rfl,rfl⟩
              go_wp2
              refine zai rfl ?_
              rw [← HGO.out]
              exact ⟨rfl,hbel.alloc hsz _⟩
            · go_wp2
              refine zai rfl ?_
              rw [← HGO.out]
              exact ⟨rfl,hbel.alloc hsz _⟩
          · rw [if_neg h12] at hst2
            have d12:¬ (12:Int)<(j:Int)-(i:Int):=by omega
            obtain ⟨s,hs⟩:∃ s,cutB t i j=s:=⟨_,rfl⟩
            have hext:ByteArray.extract { data:=t.toArray } i j=⟨s.toArray⟩:=by rw [zdq,hs]
            rw [hs] at hst2
            have HGO:=Hi (show zbX t f j (acc++[⟨1,s,(i:Int),0⟩])=za9 t from hst2)
            clear hst2 HST h12 hs
            by_cases hjl:j<t.length
            · obtain ⟨d,hd⟩:∃ d,t[j]? = some d:=⟨_,List.getElem?_eq_getElem hjl⟩
              have hwd:=HOUT.out d hd
              have Hd:=Hi hd
              have hkb_d:({ data:=t.toArray }:ByteArray)[j]'(by show j<t.toArray.size;simpa using hjl)=d:=zbe Hd.out
              have CL:=fun W=>zb1 d W
              have CD:=fun W=>zbC d W
              unfold zbh at hwd
              simp only [Bool.or_eq_false_iff] at hwd
              rw [hwd.1.1] at CL
              rw [hwd.1.2] at CD
              have h95:((d.toNat:Int) == 95)=false:=by
                have h1:=hwd.2
                have:d≠95:=by simpa using h1
                have:d.toNat≠95:=fun q=>this (UInt8.toNat.inj q)
                simp;omega
              have HCL:=Hi CL
              have HCD:=Hi CD
              clear CL CD hwd hd
              go_wp2_with fail
              refine (HCL.out _).mono ?_
              rintro e' w9 ⟨rfl,rfl⟩
              go_wp2_with fail
              refine (HCD.out _).mono ?_
              rintro e' w9 ⟨rfl,rfl⟩
              have HO2:=Hi (HOW.out.alloc (Obj.cells #[.int .i64 1,.string ⟨s.toArray⟩,.int .i64 (i:Int),.int .i64 0] 136))
              have HB2:=Hi (hbel.alloc hsz (Obj.cells #[.int .i64 1,.string ⟨s.toArray⟩,.int .i64 (i:Int),.int .i64 0] 136))
              have HZ2:=Hi (show (wr.alloc (Obj.cells #[.int .i64 1,.string ⟨s.toArray⟩,.int .i64 (i:Int),.int .i64 0] 136)).heap.size=wr.heap.size+1 from World.size_alloc _ _)
              have HS2:=Hi (show w.heap.size≤(wr.alloc (Obj.cells #[.int .i64 1,.string ⟨s.toArray⟩,.int .i64 (i:Int),.int .i64 0] 136)).heap.size by rw [World.size_alloc];omega)
              have HM1:=Hi (show acc.length+1≤maxLen by unfold maxLen;omega)
              have HM2:=Hi (show (acc.length+1)*40≤140737488355328 by omega)
              have on1:=Hi (zdz ⟨1,s,(i:Int),0⟩)
              go_wp2_with (at_builtin;refine zaI (o:=⟨some 96,_,_,_,_,_⟩) _ _ 131 rfl rfl Tryz.underlying131 HTI.out.1 HTI.out.2.1 HTI.out.2.2.1 HTI.out.2.2.2 rfl (by decide) rfl HO2.out HB2.out (wr.heap.size+1) HZ2.out rfl rfl on1.out HM2.out HM1.out HS2.out ?_;intro v2 w2 hown2 hbel2 hsz2)
              obtain ⟨A2,c2',rfl,-,-⟩:=zag hown2
              go_roundg f
              case measure=>omega
              case rel =>
                refine ⟨j,acc++[⟨1,s,(i:Int),0⟩],HGO.out,by omega,by omega,?_,by first | rfl | go_num,?_,hbel2⟩
                · simp only [List.length_append,List.length_singleton]
                  omega
                · rw [List.flatMap_append]
                  simpa [tokC] using hown2
            · have hj':j=t.length:=by omega
              have HJ:=Hi hj'
              clear hj'
              have HO2:=Hi (HOW.out.alloc (Obj.cells #[.int .i64 1,.string ⟨s.toArray⟩,.int .i64 (i:Int),.int .i64 0] 136))
              have HB2:=Hi (hbel.alloc hsz (Obj.cells #[.int .i64 1,.string ⟨s.toArray⟩,.int .i64 (i:Int),.int .i64 0] 136))
              have HZ2:=Hi (show (wr.alloc (Obj.cells #[.int .i64 1,.string ⟨s.toArray⟩,.int .i64 (i:Int),.int .i64 0] 136)).heap.size=wr.heap.size+1 from World.size_alloc _ _)
              have HS2:=Hi (show w.heap.size≤(wr.alloc (Obj.cells #[.int .i64 1,.string ⟨s.toArray⟩,.int .i64 (i:Int),.int .i64 0] 136)).heap.size by rw [World.size_alloc];omega)
              have HM1:=Hi (show acc.length+1≤maxLen by unfold maxLen;omega)
              have HM2:=Hi (show (acc.length+1)*40≤140737488355328 by omega)
              have on1:=Hi (zdz ⟨1,s,(i:Int),0⟩)
              go_wp2_with (at_builtin;refine zaI (o:=⟨some 96,_,_,_,_,_⟩) _ _ 131 rfl rfl Tryz.underlying131 HTI.out.1 HTI.out.2.1 HTI.out.2.2.1 HTI.out.2.2.2 rfl (by decide) rfl HO2.out HB2.out (wr.heap.size+1) HZ2.out rfl rfl on1.out HM2.out HM1.out HS2.out ?_;intro v2 w2 hown2 hbel2 hsz2)
              obtain ⟨A2,c2',rfl,-,-⟩:=zag hown2
              go_roundg f
              case measure=>omega
              case rel =>
                refine ⟨j,acc++[⟨1,s,(i:Int),0⟩],HGO.out,by omega,by omega,?_,by first | rfl | go_num,?_,hbel2⟩
                · simp only [List.length_append,List.length_singleton]
                  omega
                · rw [List.flatMap_append]
                  simpa [tokC] using hown2
    rw [if_neg c2] at hst;have C2:=fun W=>zb1 c W
    rw [show zaH c=false by simpa using c2] at C2;have HC2:=Hi C2;clear C2 c2
    by_cases c3:zaq c=true
    · rw [if_pos c3] at hst
      obtain ⟨R,hR⟩:∃ R,runB zaq t (i+1)=R:=⟨_,rfl⟩
      have hRb:=zdx zaq t (i+1)
      have hcut:=zeT zaq t i c HC.out
      have hall:=zbt zaq (t.drop (i+1))
      rw [hR] at hst hRb hcut
      obtain ⟨q,hq⟩:∃ q,(t.drop (i+1)).takeWhile zaq=q:=⟨_,rfl⟩
      rw [hq] at hcut hall
      have hR1:i+1≤R:=hRb.1
      have hR2:R≤t.length:=hRb.2 (by omega)
      have HIN:=Hi (fun j (h1:i+1≤j) (h2:j<R)=>zhi (p:=zaq) (t:=t) h1 (by rw [hR];exact h2))
      have HOUT:=Hi (fun c' (h:t[R]? = some c')=>zff (p:=zaq) (t:=t) (a:=i+1) (by rw [hR];exact h))
      have hqd:(c::q).all zaq=true:=by simp [c3,hall]
      have hql:(c::q).length≤1000:=by
        have:=congrArg List.length hcut
        unfold cutB at this
        rw [List.length_drop,List.length_take] at this
        rw [← this]
        omega
      have hext:ByteArray.extract { data:=t.toArray } i R=⟨(c::q).toArray⟩:=by rw [zdq,hcut]
      rw [hcut] at hst
      have C3:=fun W=>zbC c W
      rw [c3] at C3
      have HC3:=Hi C3
      have HST:=Hi hst
      have HQD:=Hi hqd
      have HQL:=Hi hql
      have HEX:=Hi hext
      clear C3 hst hR hRb hcut hall hq hqd hql hext c3
      go_wp2_with fail
      refine (HC2.out _).mono ?_
      rintro e' w9 ⟨rfl,rfl⟩
      go_wp2_with fail
      refine (HC3.out _).mono ?_
      rintro e' w9 ⟨rfl,rfl⟩
      go_wp2_with fail
      go_loopg [7] (R-i) (fun g v wr2=>EndR (wr.alloc (Obj.cells #[.int .i64 2,.string ⟨#[]⟩,.int .i64 (i:Int),.int .i64 0] 136)) i R g v wr2)
      case atStart=>exact ⟨i+1,Nat.le_refl _,hR1,by omega,by go_num,rfl⟩
      case round =>
        obtain ⟨j,hj1,hj2,hg,rfl,rfl⟩:=hrel
        by_cases hjR:j<R
        · obtain ⟨d,hd,hwd⟩:=HIN.out j hj1 hjR
          have Hd:=Hi hd
          have hjl:j<t.length:=by omega
          have hkb_d:({ data:=t.toArray }:ByteArray)[j]'(by show j<t.toArray.size;simpa using hjl)=d:=zbe Hd.out
          have CD:=fun W=>zbC d W
          rw [hwd] at CD
          have HCD:=Hi CD
          clear hd CD hwd
          go_wp2_with fail
          refine (HCD.out _).mono ?_
          rintro e' w9 ⟨rfl,rfl⟩
          go_wp2
          go_roundg (R-j)
          case measure=>omega
          case rel=>exact ⟨j+1,by omega,by omega,by omega,by go_num,rfl⟩
        · obtain rfl:j=R:=by omega
          have hst2:=HST.out
          have hext:=HEX.out
          have hbox:=zaa wr (Obj.cells #[.int .i64 2,.string ⟨#[]⟩,.int .i64 (i:Int),.int .i64 0] 136)
          have hbw:=hbel.alloc hsz (Obj.cells #[.int .i64 2,.string ⟨#[]⟩,.int .i64 (i:Int),.int .i64 0] 136)
          by_cases hbig:32767<decV (c::q)∨(1<(c::q).length∧c=48)
          · rw [if_pos hbig] at hst2
            have HGO:=Hi (show Except.error ((i:Int),2)=za9 t from hst2)
            have HCN:=Hi (ziV c q (i:Int) HQL.out HQD.out hbig _ ((HW.out.below hbw)))
            clear hst2 HST hbig hbox
            by_cases hjl:j<t.length
            · obtain ⟨d,hd⟩:∃ d,t[j]? = some d:=⟨_,List.getElem?_eq_getElem hjl⟩
              have hwd:=HOUT.out d hd
              have Hd:=Hi hd
              have hkb_d:({ data:=t.toArray }:ByteArray)[j]'(by show j<t.toArray.size;simpa using hjl)=d:=zbe Hd.out
              have CD:=fun W=>zbC d W
              rw [hwd] at CD
              have HCD:=Hi CD
              clear hd CD hwd
              go_wp2_with fail
              refine (HCD.out _).mono ?_
              rintro e' w9 ⟨rfl,rfl⟩
              go_wp2_with fail
              refine HCN.out.mono ?_
              rintro e' w5 ⟨rfl,hb5⟩
              refine zai rfl ?_
              rw [← HGO.out]
              exact ⟨rfl,hbw.trans (hb5.mono (by rw [World.size_alloc];omega))⟩
            · go_wp2_with fail
              refine HCN.out.mono ?_
              rintro e' w5 ⟨rfl,hb5⟩
              refine zai rfl ?_
              rw [← HGO.out]
              exact ⟨rfl,hbw.trans (hb5.mono (by rw [World.size_alloc];omega))⟩
          · rw [if_neg hbig] at hst2
            have HCN:=Hi (ziW c q (i:Int) HQL.out HQD.out hbig (wr.alloc (Obj.cells #[.int .i64 2,.string ⟨#[]⟩,.int .i64 (i:Int),.int .i64 0] 136)))
            obtain ⟨n,hn⟩:∃ n:Int,((decV (c::q):Nat):Int)=n:=⟨_,rfl⟩
            rw [hn] at hst2 HCN
            have HGO:=Hi (show zbX t f j (acc++[⟨2,c::q,(i:Int),n⟩])=za9 t from hst2)
            clear hst2 HST hbig hn
            by_cases hjl:j<t.length
            · obtain ⟨d,hd⟩:∃ d,t[j]? = some d:=⟨_,List.getElem?_eq_getElem hjl⟩
              have hwd:=HOUT.out d hd
              have Hd:=Hi hd
              have hkb_d:({ data:=t.toArray }:ByteArray)[j]'(by show j<t.toArray.size;simpa using hjl)=d:=zbe Hd.out
              have CD:=fun W=>zbC d W
              rw [hwd] at CD
              have HCD:=Hi CD
              clear hd CD hwd
              go_wp2_with fail
              refine (HCD.out _).mono ?_
              rintro e' w9 ⟨rfl,rfl⟩
              go_wp2_with fail
              refine HCN.out.mono ?_
              rintro e' w5 ⟨rfl,hb5⟩
              obtain ⟨b0,b1,b2,b3,g0,g1,g2,g3⟩:=zjF hb5
              have hw5:w.heap.size≤w5.heap.size:=by have:=hb5.size;rw [World.size_alloc] at this;omega
              have hlt5:wr.heap.size<w5.heap.size:=by have:=hb5.size;rw [World.size_alloc] at this;omega
              have hgb:∀ g,(Value.slice Av acc.length cv).ownBlock=some g→g<wr.heap.size:=fun g hg=>(HOW.out.lt g hg).2
              have HO5:=Hi (zam (zam (zbg (HOW.out.alloc (Obj.cells #[.int .i64 2,.string ⟨#[]⟩,.int .i64 (i:Int),.int .i64 0] 136)) hb5 (Nat.le_refl _)) (fun g e hgs=>(zaf w5 wr.heap.size 3 (.int .i64 n)).block g hgs (fun h=>by injection h;have:=hgb g e;omega))) (fun g e hgs=>(zaf (w5.setCell ⟨wr.heap.size,3,none⟩ (.int .i64 n)) wr.heap.size 1 (.string ⟨(c::q).toArray⟩)).block g hgs (fun h=>by injection h;have:=hgb g e;omega)))
              have HB5:=Hi (((hbw.trans (hb5.mono (by rw [World.size_alloc];omega))).setCell (p:=⟨wr.heap.size,3,none⟩) hsz (.int .i64 n)).setCell (p:=⟨wr.heap.size,1,none⟩) hsz (.string ⟨(c::q).toArray⟩))
              have HM1:=Hi (show acc.length+1≤maxLen by unfold maxLen;omega)
              have HM2:=Hi (show (acc.length+1)*40≤140737488355328 by omega)
              have HZ5:=Hi (show ((w5.setCell ⟨wr.heap.size,3,none⟩ (.int .i64 n)).setCell ⟨wr.heap.size,1,none⟩ (.string ⟨(c::q).toArray⟩)).heap.size=w5.heap.size by rw [World.size_setCell,World.size_setCell])
              have HS5:=Hi (show w.heap.size≤((w5.setCell ⟨wr.heap.size,3,none⟩ (.int .i64 n)).setCell ⟨wr.heap.size,1,none⟩ (.string ⟨(c::q).toArray⟩)).heap.size by rw [World.size_setCell,World.size_setCell];exact hw5)
              have on1:=Hi (zdz ⟨2,c::q,(i:Int),n⟩)
              clear hb5 hbw hbox hgb
              go_wp2_with (at_builtin;refine zaI (o:=⟨some 96,_,_,_,_,_⟩) _ _ 131 rfl rfl Tryz.underlying131 HTI.out.1 HTI.out.2.1 HTI.out.2.2.1 HTI.out.2.2.2 rfl (by decide) rfl HO5.out HB5.out w5.heap.size HZ5.out rfl rfl on1.out HM2.out HM1.out HS5.out ?_;intro v2 w2 hown2 hbel2 hsz2)
              obtain ⟨A2,c2',rfl,-,-⟩:=zag hown2
              go_roundg f
              case measure=>omega
              case rel =>
                refine ⟨j,acc++[⟨2,c::q,(i:Int),n⟩],HGO.out,by omega,by omega,?_,by first | rfl | go_num,?_,hbel2⟩
                · simp only [List.length_append,List.length_singleton]
                  omega
                · rw [List.flatMap_append]
                  simpa [tokC] using hown2
            · have hj':j=t.length:=by omega
              have HJ:=Hi hj'
              clear hj'
              go_wp2_with fail
              refine HCN.out.mono ?_
              rintro e' w5 ⟨rfl,hb5⟩
              obtain ⟨b0,b1,b2,b3,g0,g1,g2,g3⟩:=zjF hb5
              have hw5:w.heap.size≤w5.heap.size:=by have:=hb5.size;rw [World.size_alloc] at this;omega
              have hlt5:wr.heap.size<w5.heap.size:=by have:=hb5.size;rw [World.size_alloc] at this;omega
              have hgb:∀ g,(Value.slice Av acc.length cv).ownBlock=some g→g<wr.heap.size:=fun g hg=>(HOW.out.lt g hg).2
              have HO5:=Hi (zam (zam (zbg (HOW.out.alloc (Obj.cells #[.int .i64 2,.string ⟨#[]⟩,.int .i64 (i:Int),.int .i64 0] 136)) hb5 (Nat.le_refl _)) (fun g e hgs=>(zaf w5 wr.heap.size 3 (.int .i64 n)).block g hgs (fun h=>by injection h;have:=hgb g e;omega))) (fun g e hgs=>(zaf (w5.setCell ⟨wr.heap.size,3,none⟩ (.int .i64 n)) wr.heap.size 1 (.string ⟨(c::q).toArray⟩)).block g hgs (fun h=>by injection h;have:=hgb g e;omega)))
              have HB5:=Hi (((hbw.trans (hb5.mono (by rw [World.size_alloc];omega))).setCell (p:=⟨wr.heap.size,3,none⟩) hsz (.int .i64 n)).setCell (p:=⟨wr.heap.size,1,none⟩) hsz (.string ⟨(c::q).toArray⟩))
              have HM1:=Hi (show acc.length+1≤maxLen by unfold maxLen;omega)
              have HM2:=Hi (show (acc.length+1)*40≤140737488355328 by omega)
              have HZ5:=Hi (show ((w5.setCell ⟨wr.heap.size,3,none⟩ (.int .i64 n)).setCell ⟨wr.heap.size,1,none⟩ (.string ⟨(c::q).toArray⟩)).heap.size=w5.heap.size by rw [World.size_setCell,World.size_setCell])
              have HS5:=Hi (show w.heap.size≤((w5.setCell ⟨wr.heap.size,3,none⟩ (.int .i64 n)).setCell ⟨wr.heap.size,1,none⟩ (.string ⟨(c::q).toArray⟩)).heap.size by rw [World.size_setCell,World.size_setCell];exact hw5)
              have on1:=Hi (zdz ⟨2,c::q,(i:Int),n⟩)
              clear hb5 hbw hbox hgb
              go_wp2_with (at_builtin;refine zaI (o:=⟨some 96,_,_,_,_,_⟩) _ _ 131 rfl rfl Tryz.underlying131 HTI.out.1 HTI.out.2.1 HTI.out.2.2.1 HTI.out.2.2.2 rfl (by decide) rfl HO5.out HB5.out w5.heap.size HZ5.out rfl rfl on1.out HM2.out HM1.out HS5.out ?_;intro v2 w2 hown2 hbel2 hsz2)
              obtain ⟨A2,c2',rfl,-,-⟩:=zag hown2
              go_roundg f
              case measure=>omega
              case rel =>
                refine ⟨j,acc++[⟨2,c::q,(i:Int),n⟩],HGO.out,by omega,by omega,?_,by first | rfl | go_num,?_,hbel2⟩
                · simp only [List.length_append,List.length_singleton]
                  omega
                · rw [List.flatMap_append]
                  simpa [tokC] using hown2
    rw [if_neg c3] at hst;have C3:=fun W=>zbC c W
    rw [show zaq c=false by simpa using c3] at C3;have HC3:=Hi C3;have C4:=fun W=>zhx c W
    have hix:=zfJ c [40, 41, 44, 60, 62, 61, 43, 45];obtain ⟨x,hx⟩:∃ x,Lib.indexByte [40, 41, 44, 60, 62, 61, 43, 45] c=x:=⟨_,rfl⟩;rw [hx] at C4 hix;have HC4:=Hi C4;clear C3 c3 C4 hx
    by_cases c4:symB c=true
    · rw [if_pos c4] at hst
      have dx:¬ x<0:=by
        unfold symB at c4
        rw [c4] at hix
        simpa using hix
      have hx1:cutB t i (i+1)=[c]:=by
        unfold cutB
        rw [List.drop_take,show i+1-i=1 by omega]
        obtain ⟨h1,h2⟩:=List.getElem?_eq_some_iff.1 HC.out
        rw [List.drop_eq_getElem_cons h1,h2]
        rfl
      have hext:ByteArray.extract { data:=t.toArray } i (i+1)=⟨[c].toArray⟩:=by rw [zdq,hx1]
      have HGO:=Hi (show zbX t f (i+1) (acc++[⟨3,[c],(i:Int),0⟩])=za9 t from hst)
      clear hst hix hx1 c4
      go_wp2_with fail
      refine (HC2.out _).mono ?_
      rintro e' w9 ⟨rfl,rfl⟩
      go_wp2_with fail
      refine (HC3.out _).mono ?_
      rintro e' w9 ⟨rfl,rfl⟩
      go_wp2_with fail
      refine (HC4.out _).mono ?_
      rintro e' w9 ⟨rfl,rfl⟩
      have HO2:=Hi (HOW.out.alloc (Obj.cells #[.int .i64 3,.string ⟨[c].toArray⟩,.int .i64 (i:Int),.int .i64 0] 136))
      have HB2:=Hi (hbel.alloc hsz (Obj.cells #[.int .i64 3,.string ⟨[c].toArray⟩,.int .i64 (i:Int),.int .i64 0] 136))
      have HZ2:=Hi (show (wr.alloc (Obj.cells #[.int .i64 3,.string ⟨[c].toArray⟩,.int .i64 (i:Int),.int .i64 0] 136)).heap.size=wr.heap.size+1 from World.size_alloc _ _)
      have HS2:=Hi (show w.heap.size≤(wr.alloc (Obj.cells #[.int .i64 3,.string ⟨[c].toArray⟩,.int .i64 (i:Int),.int .i64 0] 136)).heap.size by rw [World.size_alloc];omega)
      have HM1:=Hi (show acc.length+1≤maxLen by unfold maxLen;omega)
      have HM2:=Hi (show (acc.length+1)*40≤140737488355328 by omega)
      have on1:=Hi (zdz ⟨3,[c],(i:Int),0⟩)
      go_wp2_with (at_builtin;refine zaI (o:=⟨some 96,_,_,_,_,_⟩) _ _ 131 rfl rfl Tryz.underlying131 HTI.out.1 HTI.out.2.1 HTI.out.2.2.1 HTI.out.2.2.2 rfl (by decide) rfl HO2.out HB2.out (wr.heap.size+1) HZ2.out rfl rfl on1.out HM2.out HM1.out HS2.out ?_;intro v2 w2 hown2 hbel2 hsz2)
      obtain ⟨A2,c2',rfl,-,-⟩:=zag hown2
      go_roundg f
      case measure=>omega
      case rel =>
        refine ⟨(i+1),acc++[⟨3,[c],(i:Int),0⟩],HGO.out,by omega,by omega,?_,by first | rfl | go_num,?_,hbel2⟩
        · simp only [List.length_append,List.length_singleton]
          omega
        · rw [List.flatMap_append]
          simpa [tokC] using hown2
    · rw [if_neg c4] at hst
      have dx:x<0:=by
        unfold symB at c4
        rw [show [40, 41, 44, 60, 62, 61, 43, 45].contains c=false by simpa using c4] at hix
        simpa using hix
      have HGO:=Hi (show Except.error ((i:Int),5)=za9 t from hst)
      clear hst hix c4
      go_wp2_with fail
      refine (HC2.out _).mono ?_
      rintro e' w9 ⟨rfl,rfl⟩
      go_wp2_with fail
      refine (HC3.out _).mono ?_
      rintro e' w9 ⟨rfl,rfl⟩
      go_wp2_with fail
      refine (HC4.out _).mono ?_
      rintro e' w9 ⟨rfl,rfl⟩
      go_wp2
      refine zai rfl ?_
      rw [← HGO.out]
      exact ⟨rfl,hbel.alloc hsz _⟩
end Go.Proofs.YtcikenlflcofbaaGreatDoor
