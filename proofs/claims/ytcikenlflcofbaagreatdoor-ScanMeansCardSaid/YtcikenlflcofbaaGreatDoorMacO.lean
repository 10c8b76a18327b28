/-
  The machine of scans: an operation without a cell. Written by gen_mac.py.
-/
import Derived.Test.YtcikenlflcofbaaGreatDoorMac
set_option maxRecDepth 100000
set_option maxHeartbeats 8000000
namespace Go.Proofs.YtcikenlflcofbaaGreatDoor
open Go.RowKit
theorem RetMa.pre {mb base:Nat} {st':List Int} {w w1:World} {sv sv1:Value} {e:Ending} {w':World} (hk:KB (MaS mb sv) w w1) (ho:sv1.ownBlock=sv.ownBlock) (hs:w1.heap.size=w.heap.size) (h:RetMa mb base st' w1 sv1 e w'):RetMa mb base st' w sv e w':=by
  obtain ⟨he,sv',hm,hk',hf⟩:=h;refine ⟨he,sv',hm,hk.trans (hk'.mono fun b _ q => ?_),?_⟩
  · rcases q with q | q
    · exact .inl q
    · exact .inr (by rw [← ho];exact q)
  · rcases hf with q | ⟨g,q,hg⟩
    · exact .inl (q.trans ho)
    · exact .inr ⟨g,q,by omega⟩
theorem RetMa.to {mb base:Nat} {st' st2:List Int} {w:World} {sv:Value} {e:Ending} {w':World} (h:RetMa mb base st' w sv e w') (hq:st'=st2):RetMa mb base st2 w sv e w':=by subst hq;exact h
theorem op_not {w:World} {mb base:Nat} {st:List Int} {sv:Value} (x:Int) (h:MaW w mb base (st++[x]) sv) (hs:st.length≤1000) (hx : -1000000000≤x∧x≤1000000000) :
    Calls Tryz.prog 58 #[.pointer (some ⟨mb,0,none⟩),.int .i64 4] w (RetMa mb base (st++[zau 4 [x]]) w sv):=by
  have HX:=Hi h;have H0:=Hi (show ∀ W sv',MaW W mb base (st++[x]) sv'→Calls Tryz.prog 56 #[.pointer (some ⟨mb,0,none⟩)] W (za5 mb base x st W sv') from fun W sv' q=>zaF q (by first | omega | (simp;omega)));have HV:=Hi (show st++[1-x]=st++[zau 4 [x]] by rfl);clear h;go_enter Tryz.func58,Tryz.ntmps58;go_wp2_with fail
  refine (H0.out _ _ HX.out).mono ?_
  rintro e0 w0 ⟨rfl,s0,hm0,hk0,ho0,hz0⟩
  have HM0:=Hi hm0;have HK0:=Hi (And.intro hk0 (And.intro ho0 hz0));clear hm0 hk0 ho0 hz0;go_wp2_with fail
  refine (zaY HM0.out _ (by omega)).mono ?_
  rintro e w9 ⟨rfl,hres⟩
  go_wp2;go_end0
  exact (RetMa.pre HK0.out.1 HK0.out.2.1 HK0.out.2.2 (RetMa.to (e := .returned (.tuple #[])) ⟨rfl,hres⟩ HV.out))
theorem op_abs {w:World} {mb base:Nat} {st:List Int} {sv:Value} (x:Int) (h:MaW w mb base (st++[x]) sv) (hs:st.length≤1000) (hx : -1000000000≤x∧x≤1000000000) :
    Calls Tryz.prog 58 #[.pointer (some ⟨mb,0,none⟩),.int .i64 15] w (RetMa mb base (st++[zau 15 [x]]) w sv):=by
  have HX:=Hi h;have H0:=Hi (show ∀ W sv',MaW W mb base (st++[x]) sv'→Calls Tryz.prog 56 #[.pointer (some ⟨mb,0,none⟩)] W (za5 mb base x st W sv') from fun W sv' q=>zaF q (by first | omega | (simp;omega)));have HV:=Hi (show st++[max x (-x)]=st++[zau 15 [x]] by rfl);clear h;go_enter Tryz.func58,Tryz.ntmps58;go_wp2_with fail
  refine (H0.out _ _ HX.out).mono ?_
  rintro e0 w0 ⟨rfl,s0,hm0,hk0,ho0,hz0⟩
  have HM0:=Hi hm0;have HK0:=Hi (And.intro hk0 (And.intro ho0 hz0));clear hm0 hk0 ho0 hz0;go_wp2_with fail
  refine (zaY HM0.out _ (by omega)).mono ?_
  rintro e w9 ⟨rfl,hres⟩
  go_wp2;go_end0
  exact (RetMa.pre HK0.out.1 HK0.out.2.1 HK0.out.2.2 (RetMa.to (e := .returned (.tuple #[])) ⟨rfl,hres⟩ HV.out))
theorem op_min {w:World} {mb base:Nat} {st:List Int} {sv:Value} (x y:Int) (h:MaW w mb base (st++[x,y]) sv) (hs:st.length≤1000) :
    Calls Tryz.prog 58 #[.pointer (some ⟨mb,0,none⟩),.int .i64 13] w (RetMa mb base (st++[zau 13 [x,y]]) w sv):=by
  have HX:=Hi (show MaW w mb base ((st++[x])++[y]) sv by simpa using h);have H1:=Hi (show ∀ W sv',MaW W mb base ((st++[x])++[y]) sv'→Calls Tryz.prog 56 #[.pointer (some ⟨mb,0,none⟩)] W (za5 mb base y (st++[x]) W sv') from fun W sv' q=>zaF q (by first | omega | (simp;omega)));have H0:=Hi (show ∀ W sv',MaW W mb base (st++[x]) sv'→Calls Tryz.prog 56 #[.pointer (some ⟨mb,0,none⟩)] W (za5 mb base x st W sv') from fun W sv' q=>zaF q (by first | omega | (simp;omega)));have HV:=Hi (show st++[min x y]=st++[zau 13 [x,y]] by rfl);clear h;go_enter Tryz.func58,Tryz.ntmps58;go_wp2_with fail
  refine (H1.out _ _ HX.out).mono ?_
  rintro e0 w0 ⟨rfl,s0,hm0,hk0,ho0,hz0⟩
  have HM0:=Hi hm0;have HK0:=Hi (And.intro hk0 (And.intro ho0 hz0));clear hm0 hk0 ho0 hz0;go_wp2_with fail
  refine (H0.out _ _ HM0.out).mono ?_
  rintro e1 w1 ⟨rfl,s1,hm1,hk1,ho1,hz1⟩
  have HM1:=Hi hm1;have HK1:=Hi (And.intro hk1 (And.intro ho1 hz1));clear hm1 hk1 ho1 hz1;go_wp2_with fail
  refine (zaY HM1.out _ (by omega)).mono ?_
  rintro e w9 ⟨rfl,hres⟩
  go_wp2;go_end0
  exact (RetMa.pre HK0.out.1 HK0.out.2.1 HK0.out.2.2 (RetMa.pre HK1.out.1 HK1.out.2.1 HK1.out.2.2 (RetMa.to (e := .returned (.tuple #[])) ⟨rfl,hres⟩ HV.out)))
theorem op_max {w:World} {mb base:Nat} {st:List Int} {sv:Value} (x y:Int) (h:MaW w mb base (st++[x,y]) sv) (hs:st.length≤1000) :
    Calls Tryz.prog 58 #[.pointer (some ⟨mb,0,none⟩),.int .i64 14] w (RetMa mb base (st++[zau 14 [x,y]]) w sv):=by
  have HX:=Hi (show MaW w mb base ((st++[x])++[y]) sv by simpa using h);have H1:=Hi (show ∀ W sv',MaW W mb base ((st++[x])++[y]) sv'→Calls Tryz.prog 56 #[.pointer (some ⟨mb,0,none⟩)] W (za5 mb base y (st++[x]) W sv') from fun W sv' q=>zaF q (by first | omega | (simp;omega)));have H0:=Hi (show ∀ W sv',MaW W mb base (st++[x]) sv'→Calls Tryz.prog 56 #[.pointer (some ⟨mb,0,none⟩)] W (za5 mb base x st W sv') from fun W sv' q=>zaF q (by first | omega | (simp;omega)));have HV:=Hi (show st++[max x y]=st++[zau 14 [x,y]] by rfl);clear h;go_enter Tryz.func58,Tryz.ntmps58;go_wp2_with fail
  refine (H1.out _ _ HX.out).mono ?_
  rintro e0 w0 ⟨rfl,s0,hm0,hk0,ho0,hz0⟩
  have HM0:=Hi hm0;have HK0:=Hi (And.intro hk0 (And.intro ho0 hz0));clear hm0 hk0 ho0 hz0;go_wp2_with fail
  refine (H0.out _ _ HM0.out).mono ?_
  rintro e1 w1 ⟨rfl,s1,hm1,hk1,ho1,hz1⟩
  have HM1:=Hi hm1;have HK1:=Hi (And.intro hk1 (And.intro ho1 hz1));clear hm1 hk1 ho1 hz1;go_wp2_with fail
  refine (zaY HM1.out _ (by omega)).mono ?_
  rintro e w9 ⟨rfl,hres⟩
  go_wp2;go_end0
  exact (RetMa.pre HK0.out.1 HK0.out.2.1 HK0.out.2.2 (RetMa.pre HK1.out.1 HK1.out.2.1 HK1.out.2.2 (RetMa.to (e := .returned (.tuple #[])) ⟨rfl,hres⟩ HV.out)))
theorem op_and {w:World} {mb base:Nat} {st:List Int} {sv:Value} (x y:Int) (h:MaW w mb base (st++[x,y]) sv) (hs:st.length≤1000) (hx:x=0∨x=1) (hy:y=0∨y=1) :
    Calls Tryz.prog 58 #[.pointer (some ⟨mb,0,none⟩),.int .i64 5] w (RetMa mb base (st++[zau 5 [x,y]]) w sv):=by
  have HX:=Hi (show MaW w mb base ((st++[x])++[y]) sv by simpa using h);have H1:=Hi (show ∀ W sv',MaW W mb base ((st++[x])++[y]) sv'→Calls Tryz.prog 56 #[.pointer (some ⟨mb,0,none⟩)] W (za5 mb base y (st++[x]) W sv') from fun W sv' q=>zaF q (by first | omega | (simp;omega)));have H0:=Hi (show ∀ W sv',MaW W mb base (st++[x]) sv'→Calls Tryz.prog 56 #[.pointer (some ⟨mb,0,none⟩)] W (za5 mb base x st W sv') from fun W sv' q=>zaF q (by first | omega | (simp;omega)));clear h
  rcases hx with rfl | rfl <;> rcases hy with rfl | rfl
  all_goals
    go_enter Tryz.func58,Tryz.ntmps58;go_wp2_with fail
    refine (H1.out _ _ HX.out).mono ?_
    rintro e0 w0 ⟨rfl,s0,hm0,hk0,ho0,hz0⟩
    have HM0:=Hi hm0;have HK0:=Hi (And.intro hk0 (And.intro ho0 hz0));clear hm0 hk0 ho0 hz0;go_wp2_with fail
    refine (H0.out _ _ HM0.out).mono ?_
    rintro e1 w1 ⟨rfl,s1,hm1,hk1,ho1,hz1⟩
    have HM1:=Hi hm1;have HK1:=Hi (And.intro hk1 (And.intro ho1 hz1));clear hm1 hk1 ho1 hz1;go_wp2_with fail
    refine (zaY HM1.out _ (by omega)).mono ?_
    rintro e w9 ⟨rfl,hres⟩
    go_wp2;go_end0
    exact (RetMa.pre HK0.out.1 HK0.out.2.1 HK0.out.2.2 (RetMa.pre HK1.out.1 HK1.out.2.1 HK1.out.2.2 (RetMa.to (e := .returned (.tuple #[])) ⟨rfl,hres⟩ rfl)))
theorem op_or {w:World} {mb base:Nat} {st:List Int} {sv:Value} (x y:Int) (h:MaW w mb base (st++[x,y]) sv) (hs:st.length≤1000) (hx:x=0∨x=1) (hy:y=0∨y=1) :
    Calls Tryz.prog 58 #[.pointer (some ⟨mb,0,none⟩),.int .i64 6] w (RetMa mb base (st++[zau 6 [x,y]]) w sv):=by
  have HX:=Hi (show MaW w mb base ((st++[x])++[y]) sv by simpa using h);have H1:=Hi (show ∀ W sv',MaW W mb base ((st++[x])++[y]) sv'→Calls Tryz.prog 56 #[.pointer (some ⟨mb,0,none⟩)] W (za5 mb base y (st++[x]) W sv') from fun W sv' q=>zaF q (by first | omega | (simp;omega)));have H0:=Hi (show ∀ W sv',MaW W mb base (st++[x]) sv'→Calls Tryz.prog 56 #[.pointer (some ⟨mb,0,none⟩)] W (za5 mb base x st W sv') from fun W sv' q=>zaF q (by first | omega | (simp;omega)));clear h
  rcases hx with rfl | rfl <;> rcases hy with rfl | rfl
  all_goals
    go_enter Tryz.func58,Tryz.ntmps58;go_wp2_with fail
    refine (H1.out _ _ HX.out).mono ?_
    rintro e0 w0 ⟨rfl,s0,hm0,hk0,ho0,hz0⟩
    have HM0:=Hi hm0;have HK0:=Hi (And.intro hk0 (And.intro ho0 hz0));clear hm0 hk0 ho0 hz0;go_wp2_with fail
    refine (H0.out _ _ HM0.out).mono ?_
    rintro e1 w1 ⟨rfl,s1,hm1,hk1,ho1,hz1⟩
    have HM1:=Hi hm1;have HK1:=Hi (And.intro hk1 (And.intro ho1 hz1));clear hm1 hk1 ho1 hz1;go_wp2_with fail
    refine (zaY HM1.out _ (by omega)).mono ?_
    rintro e w9 ⟨rfl,hres⟩
    go_wp2;go_end0
    exact (RetMa.pre HK0.out.1 HK0.out.2.1 HK0.out.2.2 (RetMa.pre HK1.out.1 HK1.out.2.1 HK1.out.2.2 (RetMa.to (e := .returned (.tuple #[])) ⟨rfl,hres⟩ rfl)))
theorem op_xor {w:World} {mb base:Nat} {st:List Int} {sv:Value} (x y:Int) (h:MaW w mb base (st++[x,y]) sv) (hs:st.length≤1000) (hx:x=0∨x=1) (hy:y=0∨y=1) :
    Calls Tryz.prog 58 #[.pointer (some ⟨mb,0,none⟩),.int .i64 7] w (RetMa mb base (st++[zau 7 [x,y]]) w sv):=by
  have HX:=Hi (show MaW w mb base ((st++[x])++[y]) sv by simpa using h);have H1:=Hi (show ∀ W sv',MaW W mb base ((st++[x])++[y]) sv'→Calls Tryz.prog 56 #[.pointer (some ⟨mb,0,none⟩)] W (za5 mb base y (st++[x]) W sv') from fun W sv' q=>zaF q (by first | omega | (simp;omega)));have H0:=Hi (show ∀ W sv',MaW W mb base (st++[x]) sv'→Calls Tryz.prog 56 #[.pointer (some ⟨mb,0,none⟩)] W (za5 mb base x st W sv') from fun W sv' q=>zaF q (by first | omega | (simp;omega)));clear h
  rcases hx with rfl | rfl <;> rcases hy with rfl | rfl
  all_goals
    go_enter Tryz.func58,Tryz.ntmps58;go_wp2_with fail
    refine (H1.out _ _ HX.out).mono ?_
    rintro e0 w0 ⟨rfl,s0,hm0,hk0,ho0,hz0⟩
    have HM0:=Hi hm0;have HK0:=Hi (And.intro hk0 (And.intro ho0 hz0));clear hm0 hk0 ho0 hz0;go_wp2_with fail
    refine (H0.out _ _ HM0.out).mono ?_
    rintro e1 w1 ⟨rfl,s1,hm1,hk1,ho1,hz1⟩
    have HM1:=Hi hm1;have HK1:=Hi (And.intro hk1 (And.intro ho1 hz1));clear hm1 hk1 ho1 hz1;go_wp2_with fail
    refine (zaY HM1.out _ (by omega)).mono ?_
    rintro e w9 ⟨rfl,hres⟩
    go_wp2;go_end0
    exact (RetMa.pre HK0.out.1 HK0.out.2.1 HK0.out.2.2 (RetMa.pre HK1.out.1 HK1.out.2.1 HK1.out.2.2 (RetMa.to (e := .returned (.tuple #[])) ⟨rfl,hres⟩ rfl)))
theorem zlx {w:World} {mb base:Nat} {st:List Int} {sv:Value} (x y:Int) (h:MaW w mb base (st++[x,y]) sv) (hs:st.length≤1000) :
    Calls Tryz.prog 58 #[.pointer (some ⟨mb,0,none⟩),.int .i64 8] w (RetMa mb base (st++[zau 8 [x,y]]) w sv):=by
  have HX:=Hi (show MaW w mb base ((st++[x])++[y]) sv by simpa using h);have H1:=Hi (show ∀ W sv',MaW W mb base ((st++[x])++[y]) sv'→Calls Tryz.prog 56 #[.pointer (some ⟨mb,0,none⟩)] W (za5 mb base y (st++[x]) W sv') from fun W sv' q=>zaF q (by first | omega | (simp;omega)));have H0:=Hi (show ∀ W sv',MaW W mb base (st++[x]) sv'→Calls Tryz.prog 56 #[.pointer (some ⟨mb,0,none⟩)] W (za5 mb base x st W sv') from fun W sv' q=>zaF q (by first | omega | (simp;omega)));have HBT:=Hi (fun b W=>zaU b W);clear h;go_enter Tryz.func58,Tryz.ntmps58;go_wp2_with fail
  refine (H1.out _ _ HX.out).mono ?_
  rintro e0 w0 ⟨rfl,s0,hm0,hk0,ho0,hz0⟩
  have HM0:=Hi hm0;have HK0:=Hi (And.intro hk0 (And.intro ho0 hz0));clear hm0 hk0 ho0 hz0;go_wp2_with fail
  refine (H0.out _ _ HM0.out).mono ?_
  rintro e1 w1 ⟨rfl,s1,hm1,hk1,ho1,hz1⟩
  have HM1:=Hi hm1;have HK1:=Hi (And.intro hk1 (And.intro ho1 hz1));clear hm1 hk1 ho1 hz1;go_wp2_with fail
  refine (HBT.out _ _).mono ?_
  rintro e w5 ⟨rfl,rfl⟩
  go_wp2_with fail
  refine (zaY HM1.out _ (by omega)).mono ?_
  rintro e w9 ⟨rfl,hres⟩
  go_wp2;go_end0
  exact (RetMa.pre HK0.out.1 HK0.out.2.1 HK0.out.2.2 (RetMa.pre HK1.out.1 HK1.out.2.1 HK1.out.2.2 (RetMa.to (e := .returned (.tuple #[])) ⟨rfl,hres⟩ (by simp [zau,bitP]))))
theorem zhH {w:World} {mb base:Nat} {st:List Int} {sv:Value} (x y:Int) (h:MaW w mb base (st++[x,y]) sv) (hs:st.length≤1000) :
    Calls Tryz.prog 58 #[.pointer (some ⟨mb,0,none⟩),.int .i64 9] w (RetMa mb base (st++[zau 9 [x,y]]) w sv):=by
  have HX:=Hi (show MaW w mb base ((st++[x])++[y]) sv by simpa using h);have H1:=Hi (show ∀ W sv',MaW W mb base ((st++[x])++[y]) sv'→Calls Tryz.prog 56 #[.pointer (some ⟨mb,0,none⟩)] W (za5 mb base y (st++[x]) W sv') from fun W sv' q=>zaF q (by first | omega | (simp;omega)));have H0:=Hi (show ∀ W sv',MaW W mb base (st++[x]) sv'→Calls Tryz.prog 56 #[.pointer (some ⟨mb,0,none⟩)] W (za5 mb base x st W sv') from fun W sv' q=>zaF q (by first | omega | (simp;omega)));have HBT:=Hi (fun b W=>zaU b W);clear h;go_enter Tryz.func58,Tryz.ntmps58;go_wp2_with fail
  refine (H1.out _ _ HX.out).mono ?_
  rintro e0 w0 ⟨rfl,s0,hm0,hk0,ho0,hz0⟩
  have HM0:=Hi hm0;have HK0:=Hi (And.intro hk0 (And.intro ho0 hz0));clear hm0 hk0 ho0 hz0;go_wp2_with fail
  refine (H0.out _ _ HM0.out).mono ?_
  rintro e1 w1 ⟨rfl,s1,hm1,hk1,ho1,hz1⟩
  have HM1:=Hi hm1;have HK1:=Hi (And.intro hk1 (And.intro ho1 hz1));clear hm1 hk1 ho1 hz1;go_wp2_with fail
  refine (HBT.out _ _).mono ?_
  rintro e w5 ⟨rfl,rfl⟩
  go_wp2_with fail
  refine (zaY HM1.out _ (by omega)).mono ?_
  rintro e w9 ⟨rfl,hres⟩
  go_wp2;go_end0
  exact (RetMa.pre HK0.out.1 HK0.out.2.1 HK0.out.2.2 (RetMa.pre HK1.out.1 HK1.out.2.1 HK1.out.2.2 (RetMa.to (e := .returned (.tuple #[])) ⟨rfl,hres⟩ (by simp [zau,bitP]))))
theorem zkb {w:World} {mb base:Nat} {st:List Int} {sv:Value} (x y:Int) (h:MaW w mb base (st++[x,y]) sv) (hs:st.length≤1000) :
    Calls Tryz.prog 58 #[.pointer (some ⟨mb,0,none⟩),.int .i64 10] w (RetMa mb base (st++[zau 10 [x,y]]) w sv):=by
  have HX:=Hi (show MaW w mb base ((st++[x])++[y]) sv by simpa using h);have H1:=Hi (show ∀ W sv',MaW W mb base ((st++[x])++[y]) sv'→Calls Tryz.prog 56 #[.pointer (some ⟨mb,0,none⟩)] W (za5 mb base y (st++[x]) W sv') from fun W sv' q=>zaF q (by first | omega | (simp;omega)));have H0:=Hi (show ∀ W sv',MaW W mb base (st++[x]) sv'→Calls Tryz.prog 56 #[.pointer (some ⟨mb,0,none⟩)] W (za5 mb base x st W sv') from fun W sv' q=>zaF q (by first | omega | (simp;omega)));have HBT:=Hi (fun b W=>zaU b W);clear h;go_enter Tryz.func58,Tryz.ntmps58;go_wp2_with fail
  refine (H1.out _ _ HX.out).mono ?_
  rintro e0 w0 ⟨rfl,s0,hm0,hk0,ho0,hz0⟩
  have HM0:=Hi hm0;have HK0:=Hi (And.intro hk0 (And.intro ho0 hz0));clear hm0 hk0 ho0 hz0;go_wp2_with fail
  refine (H0.out _ _ HM0.out).mono ?_
  rintro e1 w1 ⟨rfl,s1,hm1,hk1,ho1,hz1⟩
  have HM1:=Hi hm1;have HK1:=Hi (And.intro hk1 (And.intro ho1 hz1));clear hm1 hk1 ho1 hz1;go_wp2_with fail
  refine (HBT.out _ _).mono ?_
  rintro e w5 ⟨rfl,rfl⟩
  go_wp2_with fail
  refine (zaY HM1.out _ (by omega)).mono ?_
  rintro e w9 ⟨rfl,hres⟩
  go_wp2;go_end0
  exact (RetMa.pre HK0.out.1 HK0.out.2.1 HK0.out.2.2 (RetMa.pre HK1.out.1 HK1.out.2.1 HK1.out.2.2 (RetMa.to (e := .returned (.tuple #[])) ⟨rfl,hres⟩ (by simp [zau,bitP]))))
theorem op_add {w:World} {mb base:Nat} {st:List Int} {sv:Value} (x y:Int) (h:MaW w mb base (st++[x,y]) sv) (hs:st.length≤1000) (hx : -1000000000≤x∧x≤1000000000) (hy : -1000000000≤y∧y≤1000000000) :
    Calls Tryz.prog 58 #[.pointer (some ⟨mb,0,none⟩),.int .i64 11] w (RetMa mb base (st++[zau 11 [x,y]]) w sv):=by
  have HX:=Hi (show MaW w mb base ((st++[x])++[y]) sv by simpa using h);have H1:=Hi (show ∀ W sv',MaW W mb base ((st++[x])++[y]) sv'→Calls Tryz.prog 56 #[.pointer (some ⟨mb,0,none⟩)] W (za5 mb base y (st++[x]) W sv') from fun W sv' q=>zaF q (by first | omega | (simp;omega)));have H0:=Hi (show ∀ W sv',MaW W mb base (st++[x]) sv'→Calls Tryz.prog 56 #[.pointer (some ⟨mb,0,none⟩)] W (za5 mb base x st W sv') from fun W sv' q=>zaF q (by first | omega | (simp;omega)));have HLM:=Hi (fun v W=>zd7 v W);clear h;go_enter Tryz.func58,Tryz.ntmps58;go_wp2_with fail
  refine (H1.out _ _ HX.out).mono ?_
  rintro e0 w0 ⟨rfl,s0,hm0,hk0,ho0,hz0⟩
  have HM0:=Hi hm0;have HK0:=Hi (And.intro hk0 (And.intro ho0 hz0));clear hm0 hk0 ho0 hz0;go_wp2_with fail
  refine (H0.out _ _ HM0.out).mono ?_
  rintro e1 w1 ⟨rfl,s1,hm1,hk1,ho1,hz1⟩
  have HM1:=Hi hm1;have HK1:=Hi (And.intro hk1 (And.intro ho1 hz1));clear hm1 hk1 ho1 hz1;go_wp2_with fail
  refine (HLM.out _ _).mono ?_
  rintro e w5 ⟨rfl,rfl⟩
  go_wp2_with fail
  refine (zaY HM1.out _ (by omega)).mono ?_
  rintro e w9 ⟨rfl,hres⟩
  go_wp2;go_end0
  exact (RetMa.pre HK0.out.1 HK0.out.2.1 HK0.out.2.2 (RetMa.pre HK1.out.1 HK1.out.2.1 HK1.out.2.2 (RetMa.to (e := .returned (.tuple #[])) ⟨rfl,hres⟩ rfl)))
theorem op_sub {w:World} {mb base:Nat} {st:List Int} {sv:Value} (x y:Int) (h:MaW w mb base (st++[x,y]) sv) (hs:st.length≤1000) (hx : -1000000000≤x∧x≤1000000000) (hy : -1000000000≤y∧y≤1000000000) :
    Calls Tryz.prog 58 #[.pointer (some ⟨mb,0,none⟩),.int .i64 12] w (RetMa mb base (st++[zau 12 [x,y]]) w sv):=by
  have HX:=Hi (show MaW w mb base ((st++[x])++[y]) sv by simpa using h);have H1:=Hi (show ∀ W sv',MaW W mb base ((st++[x])++[y]) sv'→Calls Tryz.prog 56 #[.pointer (some ⟨mb,0,none⟩)] W (za5 mb base y (st++[x]) W sv') from fun W sv' q=>zaF q (by first | omega | (simp;omega)));have H0:=Hi (show ∀ W sv',MaW W mb base (st++[x]) sv'→Calls Tryz.prog 56 #[.pointer (some ⟨mb,0,none⟩)] W (za5 mb base x st W sv') from fun W sv' q=>zaF q (by first | omega | (simp;omega)));have HLM:=Hi (fun v W=>zd7 v W);clear h;go_enter Tryz.func58,Tryz.ntmps58;go_wp2_with fail
  refine (H1.out _ _ HX.out).mono ?_
  rintro e0 w0 ⟨rfl,s0,hm0,hk0,ho0,hz0⟩
  have HM0:=Hi hm0;have HK0:=Hi (And.intro hk0 (And.intro ho0 hz0));clear hm0 hk0 ho0 hz0;go_wp2_with fail
  refine (H0.out _ _ HM0.out).mono ?_
  rintro e1 w1 ⟨rfl,s1,hm1,hk1,ho1,hz1⟩
  have HM1:=Hi hm1;have HK1:=Hi (And.intro hk1 (And.intro ho1 hz1));clear hm1 hk1 ho1 hz1;go_wp2_with fail
  refine (HLM.out _ _).mono ?_
  rintro e w5 ⟨rfl,rfl⟩
  go_wp2_with fail
  refine (zaY HM1.out _ (by omega)).mono ?_
  rintro e w9 ⟨rfl,hres⟩
  go_wp2;go_end0
  exact (RetMa.pre HK0.out.1 HK0.out.2.1 HK0.out.2.2 (RetMa.pre HK1.out.1 HK1.out.2.1 HK1.out.2.2 (RetMa.to (e := .returned (.tuple #[])) ⟨rfl,hres⟩ rfl)))
theorem op_if {w:World} {mb base:Nat} {st:List Int} {sv:Value} (x y z:Int) (h:MaW w mb base (st++[x,y,z]) sv) (hs:st.length≤1000) :
    Calls Tryz.prog 58 #[.pointer (some ⟨mb,0,none⟩),.int .i64 16] w (RetMa mb base (st++[zau 16 [x,y,z]]) w sv):=by
  have HX:=Hi (show MaW w mb base ((st++[x,y])++[z]) sv by simpa using h);have H2:=Hi (show ∀ W sv',MaW W mb base ((st++[x,y])++[z]) sv'→Calls Tryz.prog 56 #[.pointer (some ⟨mb,0,none⟩)] W (za5 mb base z (st++[x,y]) W sv') from fun W sv' q=>zaF q (by first | omega | (simp;omega)));have H1:=Hi (show ∀ W sv',MaW W mb base ((st++[x])++[y]) sv'→Calls Tryz.prog 56 #[.pointer (some ⟨mb,0,none⟩)] W (za5 mb base y (st++[x]) W sv') from fun W sv' q=>zaF q (by first | omega | (simp;omega)));have H0:=Hi (show ∀ W sv',MaW W mb base (st++[x]) sv'→Calls Tryz.prog 56 #[.pointer (some ⟨mb,0,none⟩)] W (za5 mb base x st W sv') from fun W sv' q=>zaF q (by first | omega | (simp;omega)));clear h;have HV:=Hi (show zau 16 [x,y,z]=if x=1 then y else z from rfl);go_enter Tryz.func58,Tryz.ntmps58;go_wp2_with fail
  refine (H2.out _ _ HX.out).mono ?_
  rintro e0 w0 ⟨rfl,s0,hm0,hk0,ho0,hz0⟩
  have HM0:=Hi hm0;have HK0:=Hi (And.intro hk0 (And.intro ho0 hz0));clear hm0 hk0 ho0 hz0;have HM0:=Hi (show MaW w0 mb base ((st++[x])++[y]) s0 by simpa using HM0.out);go_wp2_with fail
  refine (H1.out _ _ HM0.out).mono ?_
  rintro e1 w1 ⟨rfl,s1,hm1,hk1,ho1,hz1⟩
  have HM1:=Hi hm1;have HK1:=Hi (And.intro hk1 (And.intro ho1 hz1));clear hm1 hk1 ho1 hz1;go_wp2_with fail
  refine (H0.out _ _ HM1.out).mono ?_
  rintro e2 w2 ⟨rfl,s2,hm2,hk2,ho2,hz2⟩
  have HM2:=Hi hm2;have HK2:=Hi (And.intro hk2 (And.intro ho2 hz2));clear hm2 hk2 ho2 hz2
  by_cases hx:x=1
  · subst hx
    go_wp2_with fail
    refine (zaY HM2.out _ (by omega)).mono ?_
    rintro e w9 ⟨rfl,hres⟩
    go_wp2
    go_end0
    exact (RetMa.pre HK0.out.1 HK0.out.2.1 HK0.out.2.2 (RetMa.pre HK1.out.1 HK1.out.2.1 HK1.out.2.2 (RetMa.pre HK2.out.1 HK2.out.2.1 HK2.out.2.2 (RetMa.to (e := .returned (.tuple #[])) ⟨rfl,hres⟩ rfl))))
  · have hb:(x == 1)=false:=by simpa using hx
    have HX2:=Hi hx
    clear hx
    go_wp2_with fail
    refine (zaY HM2.out _ (by omega)).mono ?_
    rintro e w9 ⟨rfl,hres⟩
    go_wp2
    go_end0
    exact (RetMa.pre HK0.out.1 HK0.out.2.1 HK0.out.2.2 (RetMa.pre HK1.out.1 HK1.out.2.1 HK1.out.2.2 (RetMa.pre HK2.out.1 HK2.out.2.1 HK2.out.2.2 (RetMa.to (e := .returned (.tuple #[])) ⟨rfl,hres⟩ (by rw [HV.out,if_neg HX2.out])))))
theorem zgy {w:World} {mb base:Nat} {st args:List Int} {sv:Value} {op:Int} (h4:4≤op∧op≤16) (hl:opnP op=args.length) (hr:∀ x∈args,-1000000000≤x∧x≤1000000000) (hb:op=5∨op=6∨op=7→∀ x∈args,x=0∨x=1) (h:MaW w mb base (st++args) sv) (hs:st.length≤1000) :
    Calls Tryz.prog 58 #[.pointer (some ⟨mb,0,none⟩),.int .i64 op] w (RetMa mb base (st++[zau op args]) w sv):=by
  have hop:(op=4∨op=15)∨op=16∨op=5∨op=6∨op=7∨op=8∨op=9∨op=10∨op=11∨op=12∨op=13∨op=14:=by omega
  rcases hop with hop | hop | hop
  · obtain ⟨x,rfl⟩:=zcs (l:=args) (by
      have:opnP op=1:=by rcases hop with rfl | rfl <;> decide
      omega)
    rcases hop with rfl | rfl
    · exact op_not x h hs (hr x (by simp))
    · exact op_abs x h hs (hr x (by simp))
  · subst hop
    obtain ⟨x,y,z,rfl⟩:=zct (l:=args) (by
      have:opnP 16=3:=by decide
      omega)
    exact op_if x y z h hs
  · obtain ⟨x,y,rfl⟩:=zeZ (l:=args) (by
      have:opnP op=2:=by rcases hop with rfl | rfl | rfl | rfl | rfl | rfl | rfl | rfl | rfl | rfl <;> decide
      omega)
    have hx:=hr x (by simp);have hy:=hr y (by simp)
    rcases hop with rfl | rfl | rfl | rfl | rfl | rfl | rfl | rfl | rfl | rfl
    · exact op_and x y h hs (hb (by simp) x (by simp)) (hb (by simp) y (by simp))
    · exact op_or x y h hs (hb (by simp) x (by simp)) (hb (by simp) y (by simp))
    · exact op_xor x y h hs (hb (by simp) x (by simp)) (hb (by simp) y (by simp))
    · exact zlx x y h hs
    · exact zhH x y h hs
    · exact zkb x y h hs
    · exact op_add x y h hs hx hy
    · exact op_sub x y h hs hx hy
    · exact op_min x y h hs
    · exact op_max x y h hs
end Go.Proofs.YtcikenlflcofbaaGreatDoor
