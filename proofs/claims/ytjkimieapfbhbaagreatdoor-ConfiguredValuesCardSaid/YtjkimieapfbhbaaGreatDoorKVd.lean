/-
 The reference's test of a bay as a whole.
-/
import Derived.Test.YtjkimieapfbhbaaGreatDoorKRSc
import Derived.ChangeKeysEq
import Derived.Deep.RegionHeld3
import Derived.Deep.DeepCutAuto
import Derived.Deep.CutRange
import Derived.WalkLawsBesides
set_option maxRecDepth 100000
set_option maxHeartbeats 8000000
open Go.Value renaming int → f, bool → l, agg → s, string → u, slice → E
open Go.IntKind renaming i64 → g
open Option renaming none → m
open Go.Proofs.Tryz renaming prog → r
open Go.Obj renaming cells → C
open Go.Ending renaming returned → D
open Nat renaming le_refl → F, zero_le → G, add_zero → H, lt_of_lt_of_le → I
namespace Go.Proofs.YtjkimieapfbhbaaGreatDoor
open Go.RowKit
def zfu (S:StatM) (x:BayM) (n:Nat):Prop:=∀ (k:Nat) (y:BayM),k<n→S.bays[k]? = some y→¬ (y.kind=x.kind∧y.ofi=x.ofi∧y.en=x.en)
theorem zkE {S:StatM} {x y:BayM} {n:Nat} (h:zfu S x n) (hy:S.bays[n]? = some y) (hn:¬ (y.kind=x.kind∧y.ofi=x.ofi∧y.en=x.en)):zfu S x (n+1):=by
 intro k z hk hz
 rcases Nat.lt_succ_iff_lt_or_eq.1 hk with h' | rfl
 · exact h k z h' hz
 · rw [hy] at hz;cases hz;exact hn
def Twn (B:Nat) (W:World) (S:StatM) (x:BayM) (n:Nat) (i:Value) (wr:World):Prop:=∃ k:Nat,k≤n∧i = f g k∧zfu S x k∧Below B W wr
theorem zae {w:World} {b o:Nat} {cs:List Value} (h:w.rangeAt b o cs) (j:Nat) {v:Value} (hv:cs[j]? = some v):w.cell? ⟨b,o+j,m⟩=some v:=h j v hv
theorem zkj (B:Nat) (p:StAt) (S:StatM) (i:Nat) (w:World) (hB:B≤w.heap.size) (hS:StC w B p S) (hn:S.bays.length≤16) (hi:i<S.bays.length) :
 Calls r 32 #[s #[u S.name,E p.A1 S.buses.length p.c1,E p.A2 S.lines.length p.c2,E p.A3 S.sources.length p.c3,E p.A4 S.bays.length p.c4],f g i] w (ErrSays (∀ x,S.bays[i]? = some x→BayF S i x) w):=by
 have HS:=Hd hS;have hk4:=hS.k4.1;obtain ⟨b,o,cs,x,hA,hbB,hx,-,⟨A2,c2,rfl,-,-,-,hl⟩,hat⟩:=hS.bays.at_ hi;clear hS;have HX:=Hd hx;have HL:=Hd hl;have HA:=Hd hA;clear hx hl;have m0:=zae hat 0 rfl;rw [H] at m0;have m1:=zae hat 1 rfl;have m2:=zae hat 2 rfl;have m3:=zae hat 3 rfl;have m4:=zae hat 4 rfl;have m5:=zae hat 5 rfl;have m6:=zae hat 6 rfl;have m7:=zae hat 7 rfl;have m8:=zae hat 8 rfl;have m9:=zae hat 9 rfl;have m10:=zae hat 10 rfl;have m11:=zae hat 11 rfl;have hb':b<w.heap.size:=by omega
 have hi0:(0:Int)≤(i:Int):=by omega
 have hi1:(i:Int)<(S.bays.length:Int):=by omega
 clear hat;obtain ⟨A1,A22,A3,A4,k1,k2,k3,k4⟩:=p;have hA':A4=some ⟨b,o,m⟩:=hA;subst hA';clear hA HA;go_enter Tryz.func32,Tryz.ntmps32;go_wp2_with fail
 refine (zgN x A2 c2 ⟨A1,A22,A3,some ⟨b,o,m⟩,k1,k2,k3,k4⟩ S _).mono ?_
 rintro e w1 ⟨n1,q1,rfl,j1⟩
 have hw1:=Below.then (zbq _ _ _) j1
 have hs1:=j1.size;simp only [World.size_alloc] at hs1;obtain ⟨hc1,hf1⟩:=zcv j1;have g0:w.heap.size<w1.heap.size:=by omega
 have g1:w.heap.size+1<w1.heap.size:=by omega
 cases hz:(n1 != 0)
 case true =>
  go_wp2;go_ret
  exact ErrSays.no hw1 (by simpa using hz)
 have hq1:=q1 (by simpa using hz);have HQ1:=Hd hq1;clear q1 hq1;go_wp2_with fail
 refine (zgP x A2 c2 _).mono ?_
 rintro e w2 ⟨b2,q2,rfl,j2⟩
 have hw2:=Below.then hw1 j2
 have hs2:=j2.size;obtain ⟨hc2,hf2⟩:=zcv j2;have g02:w.heap.size<w2.heap.size:=by omega
 have g12:w.heap.size+1<w2.heap.size:=by omega
 cases b2
 · go_wp2
   go_ret
   exact ErrSays.no hw2 (by decide)
 have hq2:=q2 rfl;have HQ2:=Hd hq2;clear q2 hq2;go_wp2_with fail
 go_loopw [7] (Twn w2.heap.size w2 S x i) (fun k _=>i-(intOf k).toNat)
 case atStart=>exact ⟨0,G _,rfl,fun _ _ h=>absurd h (Nat.not_lt_zero _),Below.refl _ _⟩
 case round =>
  obtain ⟨k,hk,rfl,hu,hbel⟩:=hrel;have HU:=Hd hu;clear hu;obtain ⟨hc3,hf3⟩:=zcv hbel;have hw3:=Below.then hw2 hbel
  have hs3:=hbel.size;have g03:w.heap.size<wr.heap.size:=by omega
  have g13:w.heap.size+1<wr.heap.size:=by omega
  by_cases hgo:k<i∧x.kind≠3
  · obtain ⟨hlt,h3⟩:=hgo
    have h3':(x.kind != 3)=true:=by simpa using h3
    obtain ⟨b',o',ds,y,e',-,hy,-,⟨A5,c5,rfl,-,-,-,-⟩,hat'⟩:=(HS.out.bays.mono BayC.mono (F _) (hw3.mono hB)).at_ (k:=k) (by omega)
    have e'':some (⟨b,o,m⟩:Addr)=some ⟨b',o',m⟩:=e'
    cases e''
    have d1:=zae hat' 1 rfl
    have d2:=zae hat' 2 rfl
    have d3:=zae hat' 3 rfl
    have HY:=Hd hy
    have hkl:(k:Int)<(S.bays.length:Int):=by omega
    have hk0:(0:Int)≤(k:Int):=by omega
    have hbw:b<wr.heap.size:=by omega
    clear hat' hy h3
    cases t1:(y.kind == x.kind)
    case' true=>cases t2:(y.ofi == x.ofi)
    case' true.true=>cases t3:(y.en == x.en)
    all_goals
     go_wp2
     go_quiet (fail)
     go_wp2
     first
      | (go_ret
         exact ErrSays.no (zag hw3 _) (by decide))
      | (go_roundw
         case rel =>
          exact ⟨k+1,by omega,by go_num,zkE HU.out HY.out (by simp only [beq_iff_eq,beq_eq_false_iff_ne] at *;omega),zag hbel _⟩
         case measure=>simp [intOf];omega)
  · have hT:zl4 S i x:=by
     by_cases h3:x.kind=3
     · exact .inl h3
     · obtain rfl:k=i:=by
        by_cases hki:k<i
        · exact absurd ⟨hki,h3⟩ hgo
        · omega
       exact .inr HU.out
    have HT:=Hd hT
    have hst:(i:Int)≤(k:Int)∨((k:Int)<(i:Int)∧(x.kind != 3)=false):=by
     by_cases hki:k<i
     · refine .inr ⟨by omega,?_⟩
       rw [bne_eq_false_iff_eq]
       by_cases h3:x.kind=3
       · exact h3
       · exact absurd ⟨hki,h3⟩ hgo
     · exact .inl (by omega)
    clear hT
    rcases hst with hst | ⟨hst,h3⟩
    all_goals
     go_wp2_with fail
     refine (zhJ x A2 c2 B ⟨A1,A22,A3,some ⟨b,o,m⟩,k1,k2,k3,k4⟩ S _ (by omega) (HL.out.mono LinkC.mono (F _) (hw3.mono hB))).mono ?_
     rintro e w4 ⟨n4,q4,rfl,j4⟩
     go_wp2
     go_ret
     exact ErrSays.of (Below.then hw3 j4) fun h0 y hy=>by
      rw [HX.out] at hy
      cases hy
      exact ⟨HQ1.out,HQ2.out,HT.out,q4 h0⟩
theorem eqVal (w:World) (d:Nat) (a b:Bool):(Op.equalIn (d+1+1+1) 73 (s #[f g 1,f g (truN a),u ⟨#[]⟩,f g 0,f g 0,f g 0]) (s #[f g 1,f g (truN b),u ⟨#[]⟩,f g 0,f g 0,f g 0])).run r w = .ok (a == b) w:=by
 rw [← zmz];generalize truN a=x;generalize truN b=y
 go_simp
 by_cases h:x=y <;> simp [h]
def EqR (xs ys:List Bool) (w:World) (i:Value) (wr:World):Prop:=∃ k:Nat,k≤xs.length∧i = f g (k:Int)∧xs.take k=ys.take k∧Below w.heap.size w wr
attribute [local go_sem high] eqVal
theorem zjh (A1 A2:Option Addr) (c1 c2 B:Nat) (xs ys:List Bool) (w:World) (hB:B≤w.heap.size) (h1:Rws ValR 6 w B A1 xs.length xs) (h2:Rws ValR 6 w B A2 ys.length ys) (hx:xs.length≤1000) :
 Calls r 83 #[E A1 xs.length c1,E A2 ys.length c2] w (zaG (decide (xs=ys)) w):=by
 have H1:=Hd h1;have H2:=Hd h2;clear h1 h2
 by_cases hl:xs.length=ys.length
 case neg =>
  have hn:((xs.length:Int) != (ys.length:Int))=true:=by rw [bne_iff_ne];omega
  have hd:decide (xs=ys)=false:=by rw [decide_eq_false_iff_not];exact fun e=>hl (by rw [e])
  have HD:=Hd hd;clear hd hl;go_enter Tryz.func83,Tryz.ntmps83;go_wp2;go_ret
  exact ⟨zcS HD.out.symm,Below.refl _ _⟩
 have hn:((xs.length:Int) != (ys.length:Int))=false:=by rw [bne_eq_false_iff_eq];omega
 have HL:=Hd hl;clear hl;go_enter Tryz.func83,Tryz.ntmps83;go_wp2
 go_loopw [13] (EqR xs ys w) (fun i _=>xs.length-(intOf i).toNat)
 case atStart=>exact ⟨0,G _,rfl,rfl,Below.refl _ _⟩
 case round =>
  obtain ⟨k,hk,rfl,htk,hbel⟩:=hrel;have hs:=hbel.size
  by_cases hlt:k<xs.length
  · obtain ⟨b,o,cs,a,rfl,hb,ha,-,rfl,hat⟩:=(H1.out.mono ValR.mono (F _) (hbel.mono hB)).at_ hlt
    have hlt2:k<ys.length:=by have:=HL.out;omega
    obtain ⟨b',o',cs',a',rfl,hb',ha',-,rfl,hat'⟩:=(H2.out.mono ValR.mono (F _) (hbel.mono hB)).at_ hlt2
    have x0:=zae hat 0 rfl
    have x1:=zae hat 1 rfl
    have x2:=zae hat 2 rfl
    have x3:=zae hat 3 rfl
    have x4:=zae hat 4 rfl
    have x5:=zae hat 5 rfl
    have y0:=zae hat' 0 rfl
    have y1:=zae hat' 1 rfl
    have y2:=zae hat' 2 rfl
    have y3:=zae hat' 3 rfl
    have y4:=zae hat' 4 rfl
    have y5:=zae hat' 5 rfl
    simp only [H] at x0 y0
    have hki:(k:Int)<(xs.length:Int):=by omega
    have hki2:(k:Int)<(ys.length:Int):=by omega
    have hk0:(0:Int)≤(k:Int):=by omega
    have hbw:b<wr.heap.size:=by omega
    have hbw':b'<wr.heap.size:=by omega
    have HA:=Hd ha
    have HA':=Hd ha'
    have HT:=Hd htk
    have HBEL:=Hd hbel
    clear hat hat' ha ha' htk hbel
    cases hq:(a == a')
    · go_wp2
      go_quiet (fail)
      go_wp2
      go_ret
      refine ⟨zcS ?_,zag HBEL.out _⟩
      symm
      rw [decide_eq_false_iff_not]
      intro e
      have h1:=HA.out
      rw [e,HA'.out] at h1
      have h2:a'=a:=Option.some.inj h1
      rw [h2] at hq
      simp at hq
    · go_wp2
      go_quiet (fail)
      go_wp2
      go_roundw
      case rel =>
       refine ⟨k+1,by omega,by go_num,?_,zag HBEL.out _⟩
       rw [List.take_add_one,List.take_add_one,HT.out,HA.out,HA'.out,(by simpa using hq:a=a')]
      case measure=>simp [intOf];omega
  · obtain rfl:k=xs.length:=by omega
    go_wp2
    go_ret
    refine ⟨zcS ?_,hbel⟩
    symm
    rw [decide_eq_true_iff]
    rw [List.take_length,HL.out,List.take_length] at htk
    exact htk
theorem zhg (A1 A2:Option Addr) (c1 c2 B:Nat) (xs ys:List Bool) (w:World) (hB:B≤w.heap.size) (h1:Rws ValR 6 w B A1 xs.length xs) (h2:Rws ValR 6 w B A2 ys.length ys) (hx:xs.length≤1000) :
 Calls r 49 #[E A1 xs.length c1,E A2 ys.length c2] w (zaG (decide (xs=ys)) w):=by
 have HC:=Hd (zjh A1 A2 c1 c2 B xs ys w hB h1 h2 hx);generalize decide (xs=ys)=q at *;clear h1 h2;go_enter Tryz.func49,Tryz.ntmps49;go_wp2_with (go_at_call 83;refine HC.out.mono ?_;rintro e w2 ⟨rfl,hb2⟩)
 go_ret
 exact ⟨rfl,hb2⟩
end Go.Proofs.YtjkimieapfbhbaaGreatDoor
namespace Go.Proofs.YtjkimieapfbhbaaGreatDoor
open Go.RowKit
theorem zf8 (b:Bool) (w:World):Calls r 219 #[f g (truN b)] w fun e w'=>e = D (f g 0)∧w=w':=by
 cases b <;>
 · go_enter Tryz.func219,Tryz.ntmps219
   unfold truN
   go_wp2
   go_ret
   exact ⟨rfl,rfl⟩
theorem zeU (w:World):Calls r 231 #[s #[f g 0,f g 0,f g 0]] w (zaU 0 w):=by
 go_enter Tryz.func231,Tryz.ntmps231;go_wp2;go_ret
 exact ⟨rfl,zaa _ _⟩
attribute [local go_sem high] eqVal
theorem eqTime (w:World) (d:Nat):(Op.equalIn (d+1+1+1) 73 (s #[f g 5,f g 0,u ⟨#[]⟩,f g 0,f g 0,f g 0]) (s #[f g 5,f g 0,u ⟨#[]⟩,f g 0,f g 0,f g 0])).run r w = .ok true w:=by
 go_simp
attribute [local go_sem high] eqTime
theorem zhl (b:Bool) (w:World):Calls r 127 #[s #[f g 1,f g (truN b),u ⟨#[]⟩,f g 0,f g 0,f g 0]] w fun e w'=>e = D (.tuple #[(.iface 249 (f g (truN b))),l true])∧Below w.heap.size w w':=by
 go_enter Tryz.func127,Tryz.ntmps127;go_wp2
 go_ret2
 exact ⟨rfl,zaa _ _⟩
theorem zkJ (b:Bool) (w:World):Calls r 128 #[(.iface 249 (f g (truN b)))] w fun e w'=>e = D (s #[f g 1,f g (truN b),u ⟨#[]⟩,f g 0,f g 0,f g 0])∧Below w.heap.size w w':=by
 have ta0:∀ w:World,(Instr.typeAssert (.iface 249 (f g (truN b))) 228 249 true).run r w = .ok (.tuple #[f g (truN b),l true]) w:=fun _=>by kernel_rfl
 go_enter Tryz.func128,Tryz.ntmps128;go_wp2;refine bodyPost_ret (v := s #[f g 1,f g (truN b),u ⟨#[]⟩,f g 0,f g 0,f g 0]) (by simp [results,Tryz.results128,go_sem]) rfl ⟨rfl,?_⟩
 exact zaa _ _
theorem ziG (b:Bool) (w:World):Calls r 81 #[s #[f g 1,f g (truN b),u ⟨#[]⟩,f g 0,f g 0,f g 0]] w (zaU 0 w):=by
 have hb:=zaa w (C #[f g 1,f g (truN b),u ⟨#[]⟩,f g 0,f g 0,f g 0] 73);have hg:w.heap.size<(w.alloc (C #[f g 1,f g (truN b),u ⟨#[]⟩,f g 0,f g 0,f g 0] 73)).heap.size:=by simp
 have hmt:∀ w:World,(method 413 249 (f g (truN b)) "substation/dataset.check").run r w = .ok (219,f g (truN b)) w:=fun _=>by kernel_rfl
 have c0:(w.alloc (C #[f g 1,f g (truN b),u ⟨#[]⟩,f g 0,f g 0,f g 0] 73)).cell? ⟨w.heap.size,0,m⟩=some (f g 1):=by simp
 have c1:(w.alloc (C #[f g 1,f g (truN b),u ⟨#[]⟩,f g 0,f g 0,f g 0] 73)).cell? ⟨w.heap.size,1,m⟩=some (f g (truN b)):=by simp
 have c2:(w.alloc (C #[f g 1,f g (truN b),u ⟨#[]⟩,f g 0,f g 0,f g 0] 73)).cell? ⟨w.heap.size,2,m⟩=some (u ⟨#[]⟩):=by simp
 have c3:(w.alloc (C #[f g 1,f g (truN b),u ⟨#[]⟩,f g 0,f g 0,f g 0] 73)).cell? ⟨w.heap.size,3,m⟩=some (f g 0):=by simp
 have c4:(w.alloc (C #[f g 1,f g (truN b),u ⟨#[]⟩,f g 0,f g 0,f g 0] 73)).cell? ⟨w.heap.size,4,m⟩=some (f g 0):=by simp
 have c5:(w.alloc (C #[f g 1,f g (truN b),u ⟨#[]⟩,f g 0,f g 0,f g 0] 73)).cell? ⟨w.heap.size,5,m⟩=some (f g 0):=by simp
 go_enter Tryz.func81,Tryz.ntmps81;go_wp2_with fail
 generalize w.alloc (C #[f g 1,f g (truN b),u ⟨#[]⟩,f g 0,f g 0,f g 0] 73)=W at *;refine (zhl b _).mono ?_
 rintro e w1 ⟨rfl,j1⟩
 have g1:w.heap.size<w1.heap.size:=I hg j1.size;obtain ⟨d0,d1,d2,d3,d4,d5⟩:=kb6 j1 hg ⟨c0,c1,c2,c3,c4,c5⟩;have HC:=Hd (fun W':World=>zkJ b W');have B1:=Hd (Below.then hb j1);clear j1 c0 c1 c2 c3 c4 c5;go_wp2
 go_region_held3 (fun w'=>w'.cell? ⟨w.heap.size,0,m⟩=some (f g 1)∧w'.cell? ⟨w.heap.size,1,m⟩=some (f g (truN b))∧w'.cell? ⟨w.heap.size,2,m⟩=some (u ⟨#[]⟩)∧w'.cell? ⟨w.heap.size,3,m⟩=some (f g 0)∧w'.cell? ⟨w.heap.size,4,m⟩=some (f g 0)∧w'.cell? ⟨w.heap.size,5,m⟩=some (f g 0)) (go_keep)
  ((go_at_call 128;refine (HC.out _).mono ?_;rintro e w2 ⟨rfl,hb2⟩;have B2:=Hd hb2;obtain ⟨z0,z1,z2,z3,z4,z5⟩:=kb6 hb2 g1 ⟨d0,d1,d2,d3,d4,d5⟩;clear hb2))
 go_wp2_with fail
 refine (zf8 b _).mono ?_
 rintro e w7 ⟨rfl,rfl⟩
 go_wp2;go_ret
 exact ⟨rfl,Below.then B1.out.drew B2.out⟩
theorem zhk (w:World):Calls r 127 #[s #[f g 5,f g 0,u ⟨#[]⟩,f g 0,f g 0,f g 0]] w fun e w'=>e = D (.tuple #[(.iface 253 (s #[f g 0,f g 0,f g 0])),l true])∧Below w.heap.size w w':=by
 go_enter Tryz.func127,Tryz.ntmps127;go_wp2
 go_ret2
 exact ⟨rfl,zaa _ _⟩
theorem zkI (w:World):Calls r 128 #[(.iface 253 (s #[f g 0,f g 0,f g 0]))] w fun e w'=>e = D (s #[f g 5,f g 0,u ⟨#[]⟩,f g 0,f g 0,f g 0])∧Below w.heap.size w w':=by
 have ta0:∀ w:World,(Instr.typeAssert (.iface 253 (s #[f g 0,f g 0,f g 0])) 228 249 true).run r w = .ok (.tuple #[f g 0,l false]) w:=fun _=>by kernel_rfl
 have ta1:∀ w:World,(Instr.typeAssert (.iface 253 (s #[f g 0,f g 0,f g 0])) 228 250 true).run r w = .ok (.tuple #[f g 0,l false]) w:=fun _=>by kernel_rfl
 have ta2:∀ w:World,(Instr.typeAssert (.iface 253 (s #[f g 0,f g 0,f g 0])) 228 251 true).run r w = .ok (.tuple #[u ⟨#[]⟩,l false]) w:=fun _=>by kernel_rfl
 have ta3:∀ w:World,(Instr.typeAssert (.iface 253 (s #[f g 0,f g 0,f g 0])) 228 252 true).run r w = .ok (.tuple #[u ⟨#[]⟩,l false]) w:=fun _=>by kernel_rfl
 have ta4:∀ w:World,(Instr.typeAssert (.iface 253 (s #[f g 0,f g 0,f g 0])) 228 253 true).run r w = .ok (.tuple #[s #[f g 0,f g 0,f g 0],l true]) w:=fun _=>by kernel_rfl
 go_enter Tryz.func128,Tryz.ntmps128;go_wp2;refine bodyPost_ret (v := s #[f g 5,f g 0,u ⟨#[]⟩,f g 0,f g 0,f g 0]) (by simp [results,Tryz.results128,go_sem]) rfl ⟨rfl,?_⟩
 exact zbq _ _ _
theorem ziF (w:World):Calls r 81 #[s #[f g 5,f g 0,u ⟨#[]⟩,f g 0,f g 0,f g 0]] w (zaU 0 w):=by
 have hb:=zaa w (C #[f g 5,f g 0,u ⟨#[]⟩,f g 0,f g 0,f g 0] 73);have hg:w.heap.size<(w.alloc (C #[f g 5,f g 0,u ⟨#[]⟩,f g 0,f g 0,f g 0] 73)).heap.size:=by simp
 have hmt:∀ w:World,(method 413 253 (s #[f g 0,f g 0,f g 0]) "substation/dataset.check").run r w = .ok (231,s #[f g 0,f g 0,f g 0]) w:=fun _=>by kernel_rfl
 have c0:(w.alloc (C #[f g 5,f g 0,u ⟨#[]⟩,f g 0,f g 0,f g 0] 73)).cell? ⟨w.heap.size,0,m⟩=some (f g 5):=by simp
 have c1:(w.alloc (C #[f g 5,f g 0,u ⟨#[]⟩,f g 0,f g 0,f g 0] 73)).cell? ⟨w.heap.size,1,m⟩=some (f g 0):=by simp
 have c2:(w.alloc (C #[f g 5,f g 0,u ⟨#[]⟩,f g 0,f g 0,f g 0] 73)).cell? ⟨w.heap.size,2,m⟩=some (u ⟨#[]⟩):=by simp
 have c3:(w.alloc (C #[f g 5,f g 0,u ⟨#[]⟩,f g 0,f g 0,f g 0] 73)).cell? ⟨w.heap.size,3,m⟩=some (f g 0):=by simp
 have c4:(w.alloc (C #[f g 5,f g 0,u ⟨#[]⟩,f g 0,f g 0,f g 0] 73)).cell? ⟨w.heap.size,4,m⟩=some (f g 0):=by simp
 have c5:(w.alloc (C #[f g 5,f g 0,u ⟨#[]⟩,f g 0,f g 0,f g 0] 73)).cell? ⟨w.heap.size,5,m⟩=some (f g 0):=by simp
 go_enter Tryz.func81,Tryz.ntmps81;go_wp2_with fail
 generalize w.alloc (C #[f g 5,f g 0,u ⟨#[]⟩,f g 0,f g 0,f g 0] 73)=W at *;refine (zhk _).mono ?_
 rintro e w1 ⟨rfl,j1⟩
 have g1:w.heap.size<w1.heap.size:=I hg j1.size;obtain ⟨d0,d1,d2,d3,d4,d5⟩:=kb6 j1 hg ⟨c0,c1,c2,c3,c4,c5⟩;have HC:=Hd (fun W':World=>zkI W');have B1:=Hd (Below.then hb j1);clear j1 c0 c1 c2 c3 c4 c5;go_wp2
 go_region_held3 (fun w'=>w'.cell? ⟨w.heap.size,0,m⟩=some (f g 5)∧w'.cell? ⟨w.heap.size,1,m⟩=some (f g 0)∧w'.cell? ⟨w.heap.size,2,m⟩=some (u ⟨#[]⟩)∧w'.cell? ⟨w.heap.size,3,m⟩=some (f g 0)∧w'.cell? ⟨w.heap.size,4,m⟩=some (f g 0)∧w'.cell? ⟨w.heap.size,5,m⟩=some (f g 0)) (go_keep)
  ((go_at_call 128;refine (HC.out _).mono ?_;rintro e w2 ⟨rfl,hb2⟩;have B2:=Hd hb2;obtain ⟨z0,z1,z2,z3,z4,z5⟩:=kb6 hb2 g1 ⟨d0,d1,d2,d3,d4,d5⟩;clear hb2))
 go_wp2_with fail
 refine (zeU _).mono ?_
 rintro e w7 ⟨rfl,hb7⟩
 go_wp2;go_ret
 exact ⟨rfl,Below.then (Below.then B1.out.drew B2.out) hb7⟩
end Go.Proofs.YtjkimieapfbhbaaGreatDoor
namespace Go.Proofs.YtjkimieapfbhbaaGreatDoor
open Go.RowKit
def ElM.nilB (e:ElM):Bool := !e.on && (e.a == 0 && e.b == 0)
def ZoneM.nilB (z:ZoneM):Bool := !z.on && (!z.fw && (z.x == 0 && (z.rt == 0 && (z.lf == 0 && z.dl == 0))))
def NumM.nilB (n:NumM):Bool:=n.z0.nilB && (n.z1.nilB && n.z2.nilB)
theorem ElM.nilB_iff (e:ElM):e.nilB=true↔e.nil:=by unfold ElM.nilB ElM.nil;simp
theorem ZoneM.nilB_iff (z:ZoneM):z.nilB=true↔z.nil:=by unfold ZoneM.nilB ZoneM.nil;simp
theorem NumM.nilB_iff (n:NumM):n.nilB=true↔n.z0.nil∧n.z1.nil∧n.z2.nil:=by unfold NumM.nilB;simp [ZoneM.nilB_iff]
theorem eqE (w:World) (d:Nat) (e:ElM):(Op.equalIn (d+1+1) 52 (s #[l e.on,f g e.a,f g e.b]) (s #[l false,f g 0,f g 0])).run r w = .ok e.nilB w:=by
 go_simp
 unfold ElM.nilB
 cases e.on <;> by_cases hb:e.a=0 <;> by_cases hc:e.b=0 <;> simp [hb,hc]
theorem eqC (w:World) (d:Nat) (e:ElM):(Op.equalIn (d+1+1) 54 (s #[l e.on,f g e.a,f g e.b]) (s #[l false,f g 0,f g 0])).run r w = .ok e.nilB w:=by
 go_simp
 unfold ElM.nilB
 cases e.on <;> by_cases hb:e.a=0 <;> by_cases hc:e.b=0 <;> simp [hb,hc]
theorem eqZ (w:World) (d:Nat) (z:ZoneM):(Op.equalIn (d+1+1) 49 (s #[l z.on,l z.fw,f g z.x,f g z.rt,f g z.lf,f g z.dl]) (s #[l false,l false,f g 0,f g 0,f g 0,f g 0])).run r w = .ok z.nilB w:=by
 go_simp
 unfold ZoneM.nilB
 cases z.on <;> cases z.fw <;> simp
 by_cases h1:z.x=0 <;> simp [h1]
 by_cases h2:z.rt=0 <;> simp [h2]
 by_cases h3:z.lf=0 <;> simp [h3]
 by_cases h4:z.dl=0 <;> simp [h4]
theorem zjT:(Tryz.prog.info? 49).map (fun i=>(i.size,i.bytes))=some (6,40):=by kernel_rfl
theorem ziz : Tryz.prog.cellsOf 49 = 6:=by kernel_rfl
theorem zmr (w:World) (d:Nat) (xs ys:Array Value):(Op.equalIn (d+1) 50 (.agg xs) (.agg ys)).run r w=(Op.eqItems d 49 6 xs ys [0,1,2]).run r w:=by
 cases hi : Tryz.prog.info? 49 with
 | none=>have:=zjT;rw [hi] at this;cases this
 | some i =>
   rw [run_equalIn_array w d xs ys Tryz.underlying50 hi,ziz]
   rfl
theorem eqZs (w:World) (d:Nat) (n:NumM):(Op.equalIn (d+1+1+1) 50
 (s #[l n.z0.on,l n.z0.fw,f g n.z0.x,f g n.z0.rt,f g n.z0.lf,f g n.z0.dl,l n.z1.on,l n.z1.fw,f g n.z1.x,f g n.z1.rt,f g n.z1.lf,f g n.z1.dl,l n.z2.on,l n.z2.fw,f g n.z2.x,f g n.z2.rt,f g n.z2.lf,f g n.z2.dl])
 (s #[l false,l false,f g 0,f g 0,f g 0,f g 0,l false,l false,f g 0,f g 0,f g 0,f g 0,l false,l false,f g 0,f g 0,f g 0,f g 0])).run r w = .ok n.nilB w:=by
 rw [zmr];have e0:=fun w=>eqZ w d n.z0
 have e1:=fun w=>eqZ w d n.z1
 have e2:=fun w=>eqZ w d n.z2
 unfold NumM.nilB;generalize n.z0.nilB=a at *;generalize n.z1.nilB=b at *;generalize n.z2.nilB=c at *;have p0:∀ w,(part 49 #[l n.z0.on,l n.z0.fw,f g n.z0.x,f g n.z0.rt,f g n.z0.lf,f g n.z0.dl,l n.z1.on,l n.z1.fw,f g n.z1.x,f g n.z1.rt,f g n.z1.lf,f g n.z1.dl,l n.z2.on,l n.z2.fw,f g n.z2.x,f g n.z2.rt,f g n.z2.lf,f g n.z2.dl] (0*6)).run r w = .ok (s #[l n.z0.on,l n.z0.fw,f g n.z0.x,f g n.z0.rt,f g n.z0.lf,f g n.z0.dl]) w:=fun w=>by go_simp
 have q0:∀ w,(part 49 #[l false,l false,f g 0,f g 0,f g 0,f g 0,l false,l false,f g 0,f g 0,f g 0,f g 0,l false,l false,f g 0,f g 0,f g 0,f g 0] (0*6)).run r w = .ok (s #[l false,l false,f g 0,f g 0,f g 0,f g 0]) w:=fun w=>by go_simp
 have p1:∀ w,(part 49 #[l n.z0.on,l n.z0.fw,f g n.z0.x,f g n.z0.rt,f g n.z0.lf,f g n.z0.dl,l n.z1.on,l n.z1.fw,f g n.z1.x,f g n.z1.rt,f g n.z1.lf,f g n.z1.dl,l n.z2.on,l n.z2.fw,f g n.z2.x,f g n.z2.rt,f g n.z2.lf,f g n.z2.dl] (1*6)).run r w = .ok (s #[l n.z1.on,l n.z1.fw,f g n.z1.x,f g n.z1.rt,f g n.z1.lf,f g n.z1.dl]) w:=fun w=>by go_simp
 have q1:∀ w,(part 49 #[l false,l false,f g 0,f g 0,f g 0,f g 0,l false,l false,f g 0,f g 0,f g 0,f g 0,l false,l false,f g 0,f g 0,f g 0,f g 0] (1*6)).run r w = .ok (s #[l false,l false,f g 0,f g 0,f g 0,f g 0]) w:=fun w=>by go_simp
 have p2:∀ w,(part 49 #[l n.z0.on,l n.z0.fw,f g n.z0.x,f g n.z0.rt,f g n.z0.lf,f g n.z0.dl,l n.z1.on,l n.z1.fw,f g n.z1.x,f g n.z1.rt,f g n.z1.lf,f g n.z1.dl,l n.z2.on,l n.z2.fw,f g n.z2.x,f g n.z2.rt,f g n.z2.lf,f g n.z2.dl] (2*6)).run r w = .ok (s #[l n.z2.on,l n.z2.fw,f g n.z2.x,f g n.z2.rt,f g n.z2.lf,f g n.z2.dl]) w:=fun w=>by go_simp
 have q2:∀ w,(part 49 #[l false,l false,f g 0,f g 0,f g 0,f g 0,l false,l false,f g 0,f g 0,f g 0,f g 0,l false,l false,f g 0,f g 0,f g 0,f g 0] (2*6)).run r w = .ok (s #[l false,l false,f g 0,f g 0,f g 0,f g 0]) w:=fun w=>by go_simp
 simp only [Op.eqItems,Sem.run_bind,p0,q0,Result.andThen_ok,e0]
 cases a <;> simp only [Bool.not_true,Bool.not_false,Bool.false_eq_true,if_false,if_true,Sem.run_pure,Sem.run_bind,p1,q1,Result.andThen_ok,e1,Bool.false_and,Bool.true_and]
 cases b <;> simp only [Bool.not_true,Bool.not_false,Bool.false_eq_true,if_false,if_true,Sem.run_pure,Sem.run_bind,p2,q2,Result.andThen_ok,e2,Bool.false_and,Bool.true_and]
 cases c <;> simp
attribute [local go_sem high] eqE eqC eqZ eqZs
theorem zaJ (n lo hi:Int) (w:World):Calls r 85 #[f g n,f g lo,f g hi] w fun e w'=>e = D (l (inB n lo hi))∧w=w':=by
 by_cases h1:lo≤n
 · by_cases h2:n≤hi
   · go_enter Tryz.func85,Tryz.ntmps85
     go_wp2
     go_ret
     exact ⟨zcV (zaF.2 ⟨h1,h2⟩),rfl⟩
   · go_enter Tryz.func85,Tryz.ntmps85
     go_wp2
     go_ret
     exact ⟨zcV (zcZ.2 (by omega)),rfl⟩
 · go_enter Tryz.func85,Tryz.ntmps85
   go_wp2
   go_ret
   exact ⟨zcV (zcZ.2 (by omega)),rfl⟩
theorem zcc (x:ElM) (lo:Int) (w:World):Calls r 86 #[s #[l x.on,f g x.a,f g x.b],f g lo] w (BoolSays (x.Fits lo 500) w):=by
 cases ho:x.on
 all_goals
  go_enter Tryz.func86,Tryz.ntmps86;go_wp2_with (go_at_call 85;refine (zaJ _ _ _ _).mono ?_;rintro e w' ⟨rfl,rfl⟩)
  all_goals go_ret
  all_goals first
   | exact BoolSays.no (zaa _ _)
   | exact BoolSays.of (zaa _ _) fun hb => .inr ⟨ho,zaF.1 (by assumption),zaF.1 hb⟩
   | exact BoolSays.of (zaa _ _) fun hb=>(by unfold ElM.Fits ElM.nil;simp_all)
theorem NoSays.yes {P:Prop} {w w':World} (h:Below w.heap.size w w'):NoSays P w (D (l true)) w':=⟨true,fun h=>absurd h (by decide),rfl,h⟩
theorem NoSays.of {P:Prop} {b:Bool} {w w':World} (h:Below w.heap.size w w') (hp:b=false→P):NoSays P w (D (l b)) w':=⟨b,hp,rfl,h⟩
theorem zaI {w:World} {cs:List Value} {t:TypeId} {k:Nat} {v:Value} (h:cs[k]? = some v):(w.alloc (C cs.toArray t)).cell? ⟨w.heap.size,k,m⟩=some v:=by
 simpa using h
theorem rq (w:World) {cs cs':List Value} {v:Value} (hcs:cs=cs') (k:Nat) (h:cs'[k]?=some v):(w.alloc (C cs.toArray 60)).cell? ⟨w.heap.size,k,m⟩=some v:=zaI (by rw [hcs];exact h)
end Go.Proofs.YtjkimieapfbhbaaGreatDoor
namespace Go.Proofs.YtjkimieapfbhbaaGreatDoor
open Go.RowKit
def msgC (pub ttl state seq rev:Int) (A:Option Addr) (n c:Nat):List Value:=[f g pub,f g ttl,f g 0,f g 0,f g 0,f g state,f g seq,l false,f g rev,E A n c]
structure MsgF (pub ttl state seq rev:Int):Prop where
 pub:0≤pub∧pub≤999
 ttl:1≤ttl∧ttl≤65535
 state:1≤state∧state≤1000
 seq:0≤seq∧seq≤1000
 rev:0≤rev∧rev≤4294967295
def MsR (w:World) (n:Nat) (i:Value) (wr:World):Prop:=∃ k:Nat,k≤n∧i = f g (k:Int)∧Below w.heap.size w wr
theorem zbA (pub ttl state seq rev:Int) (A:Option Addr) (c B:Nat) (bs:List Bool) (w:World) (hB:B≤w.heap.size) (hF:MsgF pub ttl state seq rev) (hr:Rws ValR 6 w B A bs.length bs) (hn:bs.length≤24) :
 Calls r 44 #[.agg (msgC pub ttl state seq rev A bs.length c).toArray] w (zaU 0 w):=by
 obtain ⟨⟨a1,a2⟩,⟨a3,a4⟩,⟨a5,a6⟩,⟨a7,a8⟩,⟨a9,a10⟩⟩:=hF;have e1:decide (pub<0)=false:=by rw [decide_eq_false_iff_not];omega
 have e2:decide (999<pub)=false:=by rw [decide_eq_false_iff_not];omega
 have e3:decide (ttl<1)=false:=by rw [decide_eq_false_iff_not];omega
 have e4:decide (65535<ttl)=false:=by rw [decide_eq_false_iff_not];omega
 have e5:decide (state<1)=false:=by rw [decide_eq_false_iff_not];omega
 have e6:decide (4294967295<state)=false:=by rw [decide_eq_false_iff_not];omega
 have e7:decide (seq<0)=false:=by rw [decide_eq_false_iff_not];omega
 have e8:decide (4294967295<seq)=false:=by rw [decide_eq_false_iff_not];omega
 have e9:decide (rev<0)=false:=by rw [decide_eq_false_iff_not];omega
 have e10:decide (4294967295<rev)=false:=by rw [decide_eq_false_iff_not];omega
 have e11:decide ((24:Int)<(bs.length:Int))=false:=by rw [decide_eq_false_iff_not];omega
 clear a1 a2 a3 a4 a5 a6 a7 a8 a9 a10;have hb:=zaa w (C (msgC pub ttl state seq rev A bs.length c).toArray 106);have hg:w.heap.size<(w.alloc (C (msgC pub ttl state seq rev A bs.length c).toArray 106)).heap.size:=by simp
 have q0:(w.alloc (C (msgC pub ttl state seq rev A bs.length c).toArray 106)).cell? ⟨w.heap.size,0,m⟩=some (f g pub):=zaI rfl;have q1:(w.alloc (C (msgC pub ttl state seq rev A bs.length c).toArray 106)).cell? ⟨w.heap.size,1,m⟩=some (f g ttl):=zaI rfl;have q2:(w.alloc (C (msgC pub ttl state seq rev A bs.length c).toArray 106)).cell? ⟨w.heap.size,2,m⟩=some (f g 0):=zaI rfl;have q3:(w.alloc (C (msgC pub ttl state seq rev A bs.length c).toArray 106)).cell? ⟨w.heap.size,3,m⟩=some (f g 0):=zaI rfl;have q4:(w.alloc (C (msgC pub ttl state seq rev A bs.length c).toArray 106)).cell? ⟨w.heap.size,4,m⟩=some (f g 0):=zaI rfl;have q5:(w.alloc (C (msgC pub ttl state seq rev A bs.length c).toArray 106)).cell? ⟨w.heap.size,5,m⟩=some (f g state):=zaI rfl;have q6:(w.alloc (C (msgC pub ttl state seq rev A bs.length c).toArray 106)).cell? ⟨w.heap.size,6,m⟩=some (f g seq):=zaI rfl;have q8:(w.alloc (C (msgC pub ttl state seq rev A bs.length c).toArray 106)).cell? ⟨w.heap.size,8,m⟩=some (f g rev):=zaI rfl;have q9:(w.alloc (C (msgC pub ttl state seq rev A bs.length c).toArray 106)).cell? ⟨w.heap.size,9,m⟩=some (E A bs.length c):=zaI rfl;have HR:=Hd (hr.mono ValR.mono (F _) (hb.mono hB));clear hr;go_enter Tryz.func44,Tryz.ntmps44;go_upto_region 1 with fail
 generalize w.alloc (C (msgC pub ttl state seq rev A bs.length c).toArray 106)=W at *;go_wp2_with fail
 refine (ziF _).mono ?_
 rintro e w1 ⟨rfl,j1⟩
 have p9:=(j1.cell (p:=⟨w.heap.size,9,m⟩) hg).trans q9;have B1:=Hd (Below.then hb j1);have HR1:=Hd (HR.out.mono ValR.mono (F _) (j1.mono (Nat.le_trans hB hb.size)));have hBw:B≤w1.heap.size:=by have:=hb.size;have:=j1.size;omega
 clear q0 q1 q2 q3 q4 q5 q6 q8 q9 j1;go_wp2
 go_loopw [67] (MsR w1 bs.length) (fun i _=>bs.length-(intOf i).toNat)
 case atStart=>exact ⟨0,G _,rfl,Below.refl _ _⟩
 case round =>
  obtain ⟨k,hk,rfl,hbel⟩:=hrel;have hs:=hbel.size
  by_cases hlt:k<bs.length
  · obtain ⟨b,o,cs,x,rfl,hbB,hx,-,rfl,hat⟩:=(HR1.out.mono ValR.mono (F _) (hbel.mono hBw)).at_ hlt
    have x0:=zae hat 0 rfl
    have x1:=zae hat 1 rfl
    have x2:=zae hat 2 rfl
    have x3:=zae hat 3 rfl
    have x4:=zae hat 4 rfl
    have x5:=zae hat 5 rfl
    simp only [H] at x0
    have hbw:b<wr.heap.size:=by omega
    have HBEL:=Hd hbel
    clear hat hx hbel
    go_wp2_with fail
    refine (ziG x _).mono ?_
    rintro e w3 ⟨rfl,j3⟩
    have J3:=Hd j3
    clear j3
    go_wp2
    go_roundw
    case rel=>exact ⟨k+1,by omega,by go_num,HBEL.out.trans (((Below.refl _ wr).alloc (F _) _).trans (J3.out.mono (by simp)) |>.mono hs)⟩
    case measure=>simp [intOf];omega
  · go_wp2
    go_ret
    exact ⟨rfl,Below.then B1.out hbel⟩
theorem ze6 (n:Int) (h:0≤n∧n≤100000) (w:World):Calls r 42 #[f g n] w fun e w'=>e = D (f g n)∧w=w':=by
 obtain ⟨h1,h2⟩:=h;go_enter Tryz.func42,Tryz.ntmps42;go_wp2;go_ret
 exact ⟨zaP (by omega),rfl⟩
theorem zkh (w:World):Calls r 46 #[f g 0,f g 0,f g 1000000] w fun e w'=>e = D (f g 0)∧w=w':=by
 go_enter Tryz.func46,Tryz.ntmps46;go_wp2;go_ret
 exact ⟨rfl,rfl⟩
theorem zc2 (n:Int) (h:0≤n∧n≤100000) (w:World):Calls r 82 #[f g n,f g 4294967295] w fun e w'=>e = D (f g n)∧w=w':=by
 obtain ⟨h1,h2⟩:=h;go_enter Tryz.func82,Tryz.ntmps82;go_wp2;go_ret
 exact ⟨zaP (by omega),rfl⟩
theorem zig (n:Int) (h:0≤n∧n≤10000) (w:World):Calls r 48 #[f g n,f g (n+1)] w fun e w'=>e = D (.tuple #[f g 1,l true])∧w=w':=by
 obtain ⟨h1,h2⟩:=h;go_enter Tryz.func48,Tryz.ntmps48;go_wp2_with fail
 refine (zc2 (n+1) (by omega) _).mono ?_
 rintro e w1 ⟨rfl,rfl⟩
 go_wp2_with fail
 refine (zc2 n (by omega) _).mono ?_
 rintro e w1 ⟨rfl,rfl⟩
 have hd:n+1-n=1:=by omega
 go_wp2_with fail
 clear hd;refine (zc2 1 (by omega) _).mono ?_
 rintro e w1 ⟨rfl,rfl⟩
 go_wp2
 go_ret2
 exact ⟨rfl,rfl⟩
end Go.Proofs.YtjkimieapfbhbaaGreatDoor
