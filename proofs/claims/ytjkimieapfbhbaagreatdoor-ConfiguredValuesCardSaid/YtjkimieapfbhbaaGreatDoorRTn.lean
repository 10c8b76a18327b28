/-
 The reference's test of a relay's numbers.
-/
import Derived.Test.YtjkimieapfbhbaaGreatDoorRTb
import Derived.Test.YtjkimieapfbhbaaGreatDoorKFind
import Derived.Deep.DeepCutAuto
import Derived.Deep.CutRange
set_option maxRecDepth 100000
set_option maxHeartbeats 16000000
open Nat renaming lt_of_lt_of_le → g
namespace Go.Proofs.YtjkimieapfbhbaaGreatDoor
open Go.RowKit
attribute [local go_sem high] eqE eqC eqZ eqZs
attribute [local go_sem ↓] zav
attribute [local go_sem] zay
def GA (n:NumM):Prop:=ZonesF n∧(0≤n.scheme∧n.scheme≤3)∧(0≤n.guard∧n.guard≤50)∧(n.scheme≠0∨n.guard=0)
def GB (n:NumM):Prop:=(n.scheme≠3∧n.wait=0)∨(n.scheme=3∧1≤n.wait∧n.wait≤50)
def GC (n:NumM):Prop:=n.defi.Fits 0 500∧n.under.Fits 0 500∧n.over.Fits 0 500∧n.fail.Fits 1 500
def GD (n:NumM):Prop:=n.inv.Fits 1 1000
def GE (n:NumM):Prop:=(n.shots=0∧n.dead=0∧n.reclaim=0)∨((1≤n.shots∧n.shots≤3)∧(1≤n.dead∧n.dead≤100)∧(1≤n.reclaim∧n.reclaim≤1000))
def GF (n:NumM):Prop:=(0≤n.diff∧n.diff≤16383)∧(n.diff≠0∨(n.num=0∧n.den=0∧n.harm=0))
def GX (G:Prop) (W:World) (v:Value) (wx:World):Prop:=∃ b:Bool,v = .bool b∧(b=false→G)∧Below W.heap.size W wx
theorem GX.bad {G:Prop} {W wx:World} (h:Below W.heap.size W wx):GX G W (.bool true) wx:=⟨true,rfl,fun h=>absurd h (by decide),h⟩
theorem GX.good {G:Prop} {W wx:World} {b:Bool} (h:Below W.heap.size W wx) (hp:b=false→G):GX G W (.bool b) wx:=⟨b,rfl,hp,h⟩
theorem ziW {n:NumM} (a:GA n) (b:GB n) (c:GC n) (d:GD n) (e:GE n) (f:GF n) (h:n.diff=0∨((1≤n.den∧n.den≤100)∧(0≤n.num∧n.num≤n.den)∧(0≤n.harm∧n.harm≤100))):NumbersF n:=by
 obtain ⟨a1,a2,a3,a4⟩:=a;obtain ⟨c1,c2,c3,c4⟩:=c;obtain ⟨f1,f2⟩:=f;exact ⟨a1,a2,by omega,by unfold GB at b;exact b,c1,c2,c3,c4,d,by unfold GE at e;exact e,by omega⟩
theorem GA_of {n:NumM} (hz:ZonesF n) (h1:inB n.scheme 0 3=true) (h2:inB n.guard 0 50=true) (h3:n.scheme≠0∨n.guard=0):GA n:=⟨hz,zaF.1 h1,zaF.1 h2,h3⟩
theorem GB_3 {n:NumM} (h:n.scheme=3) (h2:inB n.wait 1 50=true):GB n := .inr ⟨h,zaF.1 h2⟩
theorem GB_n {n:NumM} (h:¬ n.scheme=3) (hz:(n.scheme != 3 && n.wait != 0)=false):GB n := .inl ⟨h,by simpa [h] using hz⟩
theorem GD_on {n:NumM} (h0:n.inv.on=true) (h1:inB n.inv.a 1 16383=true) (h2:inB n.inv.b 1 1000=true):GD n := .inr ⟨h0,zaF.1 h1,zaF.1 h2⟩
theorem zfR (nm:ByteArray) (k:Int) (n:NumM) (c49 c50 c51 c52:Value) (cs:List Value) (hcs:cs=zbd nm k n c49 c50 c51 c52) (w:World):Calls Tryz.prog 58 #[.agg cs.toArray] w (BoolSays (NumbersF n) w):=by
 have q24:=rq w hcs 24 rfl;have q25:=rq w hcs 25 rfl;have q26:=rq w hcs 26 rfl;have q27:=rq w hcs 27 rfl;have q28:=rq w hcs 28 rfl;have q29:=rq w hcs 29 rfl;have q30:=rq w hcs 30 rfl;have q31:=rq w hcs 31 rfl;have q32:=rq w hcs 32 rfl;have q33:=rq w hcs 33 rfl;have q34:=rq w hcs 34 rfl;have q35:=rq w hcs 35 rfl;have q36:=rq w hcs 36 rfl;have q37:=rq w hcs 37 rfl;have q38:=rq w hcs 38 rfl;have q39:=rq w hcs 39 rfl;have q40:=rq w hcs 40 rfl;have q41:=rq w hcs 41 rfl;have q42:=rq w hcs 42 rfl;have q43:=rq w hcs 43 rfl;have q44:=rq w hcs 44 rfl;have q45:=rq w hcs 45 rfl;have q46:=rq w hcs 46 rfl;have q47:=rq w hcs 47 rfl;have q48:=rq w hcs 48 rfl;have hb:=zaa w (Obj.cells cs.toArray 60);have hg:w.heap.size<(w.alloc (Obj.cells cs.toArray 60)).heap.size:=by simp
 have hl:cs.length=53:=by rw [hcs];rfl
 have hr0:=zbs (zck w cs 60) hl;have HCS:=Hd hcs;clear hcs hl;go_enter Tryz.func58,Tryz.ntmps58;go_upto_region 1 with fail
 generalize w.alloc (Obj.cells cs.toArray 60)=W0 at *;have HQ24:=Hd q24;have HQ25:=Hd q25;have HQ26:=Hd q26;have HQ27:=Hd q27;have HQ28:=Hd q28;have HQ29:=Hd q29;have HQ30:=Hd q30;have HQ31:=Hd q31;have HQ32:=Hd q32;have HQ33:=Hd q33;have HQ34:=Hd q34;have HQ35:=Hd q35;have HQ36:=Hd q36;have HQ37:=Hd q37;have HQ38:=Hd q38;have HQ39:=Hd q39;have HQ40:=Hd q40;have HQ41:=Hd q41;have HQ42:=Hd q42;have HQ43:=Hd q43;have HQ44:=Hd q44;have HQ45:=Hd q45;have HQ46:=Hd q46;have HQ47:=Hd q47;have HQ48:=Hd q48;clear q24 q25 q26 q27 q28 q29 q30 q31 q32 q33 q34 q35 q36 q37 q38 q39 q40 q41 q42 q43 q44 q45 q46 q47 q48
 go_cut [27] from 3 to 27 (GX (GA n) W0)
 case first =>
  go_wp2_with fail
  refine (zhP nm k n c49 c50 c51 c52 cs HCS.out _).mono ?_
  rintro e w1 ⟨b1,t1,rfl,j1⟩
  have g1:w.heap.size<w1.heap.size:=g hg j1.size;have p24:=(j1.cell (p:=⟨w.heap.size,24,none⟩) hg).trans HQ24.out;have p26:=(j1.cell (p:=⟨w.heap.size,26,none⟩) hg).trans HQ26.out
  cases b1
  · go_wp2
    go_meet
    exact GX.bad j1
  have HT1:=Hd (t1 rfl);clear t1 hr0;go_wp2_with (first | (go_at_call 85;refine (zaJ _ _ _ _).mono ?_;rintro e w' ⟨rfl,rfl⟩))
  all_goals go_meet
  all_goals first
   | exact GX.bad j1
   | exact GX.good j1 fun hz=>GA_of HT1.out (by assumption) (by assumption) (.inr (by simpa using hz))
   | exact GX.good j1 fun hz=>GA_of HT1.out (by assumption) (by first | assumption | simpa using hz) (.inl (by assumption))
   | trace_state
 case rest =>
  obtain ⟨b,rfl,hG,hbel⟩:=hcut;have hw:=Below.then hb hbel
  have gw:w.heap.size<wc.heap.size:=g hg hbel.size
  cases b
  case true =>
   go_wp2;go_ret
   exact BoolSays.no hw
  have HGA:=Hd (hG rfl);clear hG;have p24:=(hbel.cell (p:=⟨w.heap.size,24,none⟩) hg).trans HQ24.out;have p25:=(hbel.cell (p:=⟨w.heap.size,25,none⟩) hg).trans HQ25.out;go_upto_region 3 with fail
  go_cut [46] from 28 to 46 (GX (GB n) W0)
  case first =>
   all_goals
    go_wp2_with (first | (go_at_call 85;refine (zaJ _ _ _ _).mono ?_;rintro e w' ⟨rfl,rfl⟩))
    all_goals go_meet
    all_goals first
     | exact GX.bad hbel
     | exact GX.good hbel fun hz=>GB_3 (by assumption) (by assumption)
     | exact GX.good hbel fun hz=>GB_n (by assumption) hz
  case rest =>
   obtain ⟨b,rfl,hG,hbel⟩:=hcut;have hw:=Below.then hb hbel
   have gw:w.heap.size<wc.heap.size:=g hg hbel.size
   cases b
   case true =>
    go_wp2;go_ret
    exact BoolSays.no hw
   have HGB:=Hd (hG rfl);clear hG;obtain ⟨p27,p28,p29,p33,p34,p35⟩:=kb6 hbel hg ⟨HQ27.out,HQ28.out,HQ29.out,HQ33.out,HQ34.out,HQ35.out⟩;obtain ⟨p39,p40,p41,p42,p43,p44⟩:=kb6 hbel hg ⟨HQ39.out,HQ40.out,HQ41.out,HQ42.out,HQ43.out,HQ44.out⟩;go_upto_region 5 with fail
   go_cut [68] from 47 to 68 (GX (GC n) W0)
   case first =>
    all_goals
     go_wp2_with (first | (go_at_call 86;(with_reducible refine (zcc n.defi 0 _).mono ?_);rintro e w2 ⟨b2,t2,rfl,j2⟩;obtain ⟨hc2,hf2⟩:=zcv j2;have g2:w.heap.size<w2.heap.size:=g gw j2.size;cases b2) | (go_at_call 86;(with_reducible refine (zcc n.under 0 _).mono ?_);rintro e w3 ⟨b3,t3,rfl,j3⟩;obtain ⟨hc3,hf3⟩:=zcv j3;have g3:w.heap.size<w3.heap.size:=g g2 j3.size;cases b3) | (go_at_call 86;(with_reducible refine (zcc n.over 0 _).mono ?_);rintro e w4 ⟨b4,t4,rfl,j4⟩;obtain ⟨hc4,hf4⟩:=zcv j4;have g4:w.heap.size<w4.heap.size:=g g3 j4.size;cases b4) | (go_at_call 86;(with_reducible refine (zcc n.fail 1 _).mono ?_);rintro e w5 ⟨b5,t5,rfl,j5⟩;obtain ⟨hc5,hf5⟩:=zcv j5;have g5:w.heap.size<w5.heap.size:=g g4 j5.size;cases b5))
     all_goals go_meet
     all_goals first
      | exact GX.bad (Below.then hbel j2)
      | exact GX.bad (Below.then (Below.then hbel j2) j3)
      | exact GX.bad (Below.then (Below.then (Below.then hbel j2) j3) j4)
      | exact GX.bad (Below.then (Below.then (Below.then (Below.then hbel j2) j3) j4) j5)
      | exact GX.good (Below.then (Below.then (Below.then (Below.then hbel j2) j3) j4) j5) fun _=>⟨t2 trivial,t3 trivial,t4 trivial,t5 trivial⟩
   case rest =>
    obtain ⟨b,rfl,hG,hbel⟩:=hcut;have hw:=Below.then hb hbel
    have gw:w.heap.size<wc.heap.size:=g hg hbel.size
    cases b
    case true =>
     go_wp2;go_ret
     exact BoolSays.no hw
    have HGC:=Hd (hG rfl);clear hG;obtain ⟨p30,p31,p32⟩:=kb3 hbel hg ⟨HQ30.out,HQ31.out,HQ32.out⟩;go_upto_region 7 with fail
    go_cut [97] from 69 to 97 (GX (GD n) W0)
    case first =>
     cases ho:n.inv.on
     all_goals
      go_wp2_with (first | (go_at_call 85;refine (zaJ _ _ _ _).mono ?_;rintro e w' ⟨rfl,rfl⟩))
      all_goals go_meet
      all_goals first
       | exact GX.bad hbel
       | exact GX.good hbel fun hz=>GD_on ho (by assumption) (by assumption)
       | exact GX.good hbel fun hz=>(by unfold GD ElM.Fits ElM.nil;clear p30 p31 p32;simp_all)
    case rest =>
     obtain ⟨b,rfl,hG,hbel⟩:=hcut;have hw:=Below.then hb hbel
     have gw:w.heap.size<wc.heap.size:=g hg hbel.size
     cases b
     case true =>
      go_wp2;go_ret
      exact BoolSays.no hw
     have HGD:=Hd (hG rfl);clear hG;obtain ⟨p36,p37,p38⟩:=kb3 hbel hg ⟨HQ36.out,HQ37.out,HQ38.out⟩;go_upto_region 9 with fail
     go_cut [133] from 98 to 133 (GX (GE n) W0)
     case first =>
      all_goals
       go_wp2_with (first | (go_at_call 85;refine (zaJ _ _ _ _).mono ?_;rintro e w' ⟨rfl,rfl⟩))
       all_goals go_meet
       all_goals first
        | exact GX.bad hbel
        | exact GX.good hbel fun hz=>(by unfold GE;clear p36 p37 p38;simp only [Bool.not_eq_false',zaF] at *;omega)
        | exact GX.good hbel fun hz=>(by unfold GE;clear p36 p37 p38;simp [zaF] at *;omega)
     case rest =>
      obtain ⟨b,rfl,hG,hbel⟩:=hcut;have hw:=Below.then hb hbel
      have gw:w.heap.size<wc.heap.size:=g hg hbel.size
      cases b
      case true =>
       go_wp2;go_ret
       exact BoolSays.no hw
      have HGE:=Hd (hG rfl);clear hG;obtain ⟨p45,p46,p47,p48⟩:=kb4 hbel hg ⟨HQ45.out,HQ46.out,HQ47.out,HQ48.out⟩;go_upto_region 11 with fail
      go_cut [157] from 134 to 157 (GX (GF n) W0)
      case first =>
       all_goals
        go_wp2_with (first | (go_at_call 85;refine (zaJ _ _ _ _).mono ?_;rintro e w' ⟨rfl,rfl⟩))
        all_goals go_meet
        all_goals first
         | exact GX.bad hbel
         | exact GX.good hbel fun hz=>(by unfold GF;clear p45 p46 p47 p48;simp only [bne_eq_false_iff_eq,zaF] at *;omega)
         | exact GX.good hbel fun hz=>(by unfold GF;clear p45 p46 p47 p48;simp [zaF] at *;omega)
      case rest =>
       obtain ⟨b,rfl,hG,hbel⟩:=hcut;have hw:=Below.then hb hbel
       have gw:w.heap.size<wc.heap.size:=g hg hbel.size
       cases b
       case true =>
        go_wp2;go_ret
        exact BoolSays.no hw
       have HGF:=Hd (hG rfl);clear hG;obtain ⟨p45,p46,p47,p48⟩:=kb4 hbel hg ⟨HQ45.out,HQ46.out,HQ47.out,HQ48.out⟩;go_wp2_with (first | (go_at_call 85;refine (zaJ _ _ _ _).mono ?_;rintro e w' ⟨rfl,rfl⟩))
       all_goals go_ret
       all_goals first
        | exact BoolSays.no hw
        | exact BoolSays.of hw fun hz=>ziW HGA.out HGB.out HGC.out HGD.out HGE.out HGF.out (by first | exact .inl (by assumption) | exact .inl (by simpa using hz) | exact .inr ⟨zaF.1 (by assumption),zaF.1 (by assumption),zaF.1 (by simpa [show ¬ n.diff=0 by assumption] using hz)⟩)
end Go.Proofs.YtjkimieapfbhbaaGreatDoor
