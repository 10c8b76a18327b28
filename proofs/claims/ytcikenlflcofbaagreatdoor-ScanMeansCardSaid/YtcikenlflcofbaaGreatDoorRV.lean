/-
  The reference's Depth, built and Valid, exactly.
-/
import Derived.Test.YtcikenlflcofbaaGreatDoorKSz
import Derived.Test.YtcikenlflcofbaaGreatDoorKR27
set_option maxRecDepth 100000
set_option maxHeartbeats 8000000
namespace Go.Proofs.YtcikenlflcofbaaGreatDoor
open Go.RowKit
def DpX (W0:World) (f:Ex→Nat) (ks:List Ex) (total:Nat) (g:Nat) (v u:Value) (wr:World):Prop:=
  ∃ k m:Nat,k≤ks.length∧ks.length-k<g∧v = .int .i64 (k:Int)∧u = .int .i64 (m:Int)∧max m (dpL f (ks.drop k))=total∧Below W0.heap.size W0 wr
theorem zhY:∀ (d:Nat) (op n:Int) (nm:List UInt8) (A:Option Addr) (c:Nat) (ks:List Ex) (w:World),dpG (d+1) (.mk op n nm ks)≤1000000000000000000→ks.length≤9223372036854775807→Rw (ExC d) 4 w (fun b=>b<w.heap.size) A ks.length ks →
    Calls Tryz.prog 69 #[exV op n nm A ks.length c] w (RetN (dpG (d+1) (.mk op n nm ks)) w):=by
  intro d
  induction d using Nat.strongRecOn with
  | _ d ih =>
    intro op n nm A c ks w hTl hkl hr;have hT:dpL (dpG d) ks+1=dpG (d+1) (.mk op n nm ks):=rfl;generalize hTT:dpG (d+1) (.mk op n nm ks)=T at *;clear hTT;obtain ⟨U,rfl⟩:∃ U,T=U+1:=⟨_,hT.symm⟩;have HT:=Hi (show dpL (dpG d) ks=U by omega);have HIH:=Hi ih;have HR:=Hi hr;clear ih hr hT;unfold exV;have HB:=Hi (zaa w (Obj.cells #[.int .i64 op,.int .i64 n,.string ⟨nm.toArray⟩,.slice A ks.length c] 48));go_enter Tryz.func69,Tryz.ntmps69;go_wp2;go_loopg [9,3] (ks.length+1) (fun g v u wr=>DpX (w.alloc (Obj.cells #[.int .i64 op,.int .i64 n,.string ⟨nm.toArray⟩,.slice A ks.length c] 48)) (dpG d) ks U g v u wr)
    case atStart=>exact ⟨0,0,Nat.zero_le _,by omega,rfl,rfl,by rw [List.drop_zero,Nat.zero_max];exact HT.out,Below.refl _ _⟩
    case round =>
      obtain ⟨k,m,hk,hg,rfl,rfl,hm,hb⟩:=hrel;have hsz:=hb.size;simp only [World.size_alloc] at hsz;have hbw:=zac HB.out hb HB.out.size
      by_cases hlt:k<ks.length
      case neg =>
        have HBW:=Hi hbw;rw [List.drop_eq_nil_of_le (by omega)] at hm;unfold dpL at hm;rw [Nat.max_zero] at hm;subst hm;have hml:(m:Int)≤1000000000000000000:=by omega
        clear hb hbw;go_wp2;go_ret
        exact ⟨zbs (by omega),HBW.out⟩
      obtain ⟨d',b,o,op2,n2,nm2,A2,c2,ys,hd',hA,hSb,hky,hc2,hm2,hp2,hr2,hxb⟩:=zfA (HR.out.mono (ExC.mono _) (fun b q=>q) (zab hbw fun b q=>q)) hlt;subst hA;obtain ⟨y0,y1,y2,y3⟩:=hxb
      have hget:ks[k] = .mk op2 n2 nm2 ys:=by
        rw [List.getElem?_eq_getElem hlt] at hky;injection hky
      rw [List.drop_eq_getElem_cons hlt,hget] at hm;unfold dpL at hm;have hbk:b<wr.heap.size:=by omega
      have hbx:=zaa wr (Obj.cells #[.int .i64 op2,.int .i64 n2,.string ⟨nm2.toArray⟩,.slice A2 ys.length c2] 48);have hys:ys.length≤9223372036854775807:=by unfold maxLen at hm2;omega
      have C1:=HIH.out d' (by omega) op2 n2 nm2 A2 c2 ys (wr.alloc (Obj.cells #[.int .i64 op2,.int .i64 n2,.string ⟨nm2.toArray⟩,.slice A2 ys.length c2] 48)) (by rw [← hd'];omega) hys (hr2.mono (ExC.mono _) (fun b q=>by simp only [World.size_alloc];omega) (zab hbx fun b q=>by omega));rw [← hd'] at C1;unfold exV at C1;generalize dpG d (.mk op2 n2 nm2 ys)=s2 at *;have HC1:=Hi C1;have HM:=Hi (show max (max m s2) (dpL (dpG d) (ks.drop (k+1)))=U by omega);have HBB:=Hi (zac hb hbx hb.size);clear hr2 C1 hbw hp2 hky hb hbx hSb hc2 hm hget hd';unfold maxLen at hm2;go_wp2_with fail
      refine HC1.out.mono ?_
      rintro e w5 ⟨rfl,hb5⟩
      go_wp2;go_roundg (ks.length-k)
      case measure=>omega
      case rel=>exact ⟨k+1,max m s2,by omega,by omega,by go_num,by congr 1;omega,HM.out,zac HBB.out hb5 HBB.out.size⟩
theorem zlg {d:Nat} {op n:Int} {nm:List UInt8} {ks:List Ex} {k:Nat} {y:Ex} (hy:ks[k]? = some y) (hb:bltG d y=false):bltG (d+1) (.mk op n nm ks)=false:=by
  show (za7 op n nm ks.length && ks.all (bltG d))=false
  have:ks.all (bltG d)=false:=by rw [List.all_eq_false];exact ⟨y,List.mem_of_getElem? hy,by simp [hb]⟩
  rw [this,Bool.and_false]
theorem zgR {d:Nat} {op n:Int} {nm:List UInt8} {ks:List Ex} (h:za7 op n nm ks.length=false):bltG (d+1) (.mk op n nm ks)=false:=by
  show (za7 op n nm ks.length && ks.all (bltG d))=false
  rw [h,Bool.false_and]
theorem zlf {d:Nat} {op n:Int} {nm:List UInt8} {ks:List Ex} {k:Nat} (h:za7 op n nm ks.length=true) (ha:∀ j x,j<k→ks[j]? = some x→bltG d x=true) (hk:ks.length≤k):bltG (d+1) (.mk op n nm ks)=true:=by
  show (za7 op n nm ks.length && ks.all (bltG d))=true
  rw [h,Bool.true_and,List.all_eq_true];exact zlX ha hk
theorem zil:∀ (d:Nat) (op n:Int) (nm:List UInt8) (A:Option Addr) (c:Nat) (ks:List Ex) (w:World),ExP op n nm→ks.length≤9223372036854775807→Rw (ExC d) 4 w (fun b=>b<w.heap.size) A ks.length ks →
    Calls Tryz.prog 71 #[exV op n nm A ks.length c] w (RetB (bltG (d+1) (.mk op n nm ks)) w):=by
  intro d
  induction d using Nat.strongRecOn with
  | _ d ih =>
    intro op n nm A c ks w hp hkl hr;have C1:=fun W=>zb5 op W
    have C2:=fun W=>zel nm W hp.2.2
    have HIH:=Hi ih;have HR:=Hi hr;have HBX:=Hi (zaa w (Obj.cells #[.int .i64 op,.int .i64 n,.string ⟨nm.toArray⟩,.slice A ks.length c] 48));have X:=XV.new w op n nm A ks.length c;obtain ⟨x0,x1,x2,x3,-,-,-,-⟩:=X.cells;clear hp X ih hr;unfold exV
    by_cases hk:(ks.length:Int)=zav op
    case neg =>
      have HN:=Hi (zgR (d:=d) (zfV (n:=n) (nm:=nm) hk));have d1:(zav op != (ks.length:Int))=true:=by simp;exact fun q=>hk q.symm
      have HC1:=Hi C1;clear hk C1 C2;generalize zav op=ar at *;go_enter Tryz.func71,Tryz.ntmps71;go_wp2
      go_quiet ((go_at_call 64;exact zaB (HC1.out _)))
      go_wp2;go_ret
      exact ⟨zae HN.out.symm,zao (zaa w _) _⟩
    have d1:(zav op != (ks.length:Int))=false:=by simp [hk]
    have key:∀ (res:Bool),za7 op n nm ks.length=res→(res=false→bltG (d+1) (.mk op n nm ks)=false):=fun res h q=>zgR (by rw [h,q])
    have HKEY:=Hi key;obtain ⟨res,hrs⟩:∃ res,za7 op n nm ks.length=res:=⟨_,rfl⟩;have HRS:=Hi hrs;obtain ⟨mo,hmo⟩:∃ mo,zcM op=mo:=⟨_,rfl⟩
    have hcase:(op=3∧mo=0)∨(op=1∧mo=1)∨(op=2∧mo=32767)∨(op=19∧mo=500)∨(op=20∧mo=500)∨(op≠1∧op≠2∧op≠3∧op≠19∧op≠20∧mo=0):=by
      unfold zcM at hmo
      repeat' split at hmo
      all_goals omega
    have hres:(op=3∧((n<0∧res=false)∨(0<n∧res=false)∨(n=0∧zbj nm=false∧res=false)∨(n=0∧zbj nm=true∧res=true))) ∨
        (op≠3∧((n<0∧res=false)∨(0≤n∧mo<n∧res=false)∨(0≤n∧n≤mo∧nm.isEmpty=false∧res=false)∨(0≤n∧n≤mo∧nm.isEmpty=true∧res=true))):=by
      by_cases h3:op=3
      · subst h3
        rw [zeE hk] at hrs
        refine .inl ⟨rfl,?_⟩
        rcases Int.lt_trichotomy n 0 with h | h | h
        · exact .inl ⟨h,by rw [← hrs];simp;omega⟩
        · subst h
          cases hnb:zbj nm with
          | false=>exact .inr (.inr (.inl ⟨rfl,rfl,by rw [← hrs,hnb];rfl⟩))
          | true=>exact .inr (.inr (.inr ⟨rfl,rfl,by rw [← hrs,hnb];rfl⟩))
        · exact .inr (.inl ⟨h,by rw [← hrs];simp;omega⟩)
      · rw [zd9 hk h3,hmo] at hrs
        refine .inr ⟨h3,?_⟩
        by_cases h1:n<0
        · exact .inl ⟨h1,by rw [← hrs];simp;omega⟩
        by_cases h2:mo<n
        · exact .inr (.inl ⟨by omega,h2,by rw [← hrs];simp;omega⟩)
        cases he:nm.isEmpty with
        | false=>exact .inr (.inr (.inl ⟨by omega,by omega,rfl,by rw [← hrs,he];rfl⟩))
        | true=>exact .inr (.inr (.inr ⟨by omega,by omega,rfl,by rw [← hrs,he];simp;omega⟩))
    have HC1:=Hi C1;have HC2:=Hi C2;clear hk C1 C2 hmo hrs key;generalize zav op=ar at *
    -- the loop behind a node that fits
    have HBA:=Hi (fun (h:res=true) (k:Nat) (ha:∀ j x,j<k→ks[j]? = some x→bltG d x=true) (hk:ks.length≤k)=>zlf (HRS.out.trans h) ha hk);have HBB:=Hi (fun (k:Nat) (y:Ex) (hy:ks[k]? = some y) (hb:bltG d y=false)=>zlg (op:=op) (n:=n) (nm:=nm) hy hb);obtain ⟨R,hR⟩:∃ R,bltG (d+1) (.mk op n nm ks)=R:=⟨_,rfl⟩;rw [hR] at HKEY HBA HBB;rw [hR];clear hR;have HKF:=Hi (fun h:res=false=>HKEY.out res HRS.out h);clear HKEY HRS
    rcases hres with ⟨rfl,h⟩ | ⟨h3,h⟩
    · obtain rfl:mo=0:=by omega
      clear hcase
      rcases h with ⟨h1,hr0⟩ | ⟨h1,hr0⟩ | ⟨rfl,hnb,hr0⟩ | ⟨rfl,hnb,hr0⟩
      · have HF:=Hi (HKF.out hr0)
        clear hr0
        go_enter Tryz.func71,Tryz.ntmps71
        go_wp2
        go_quiet ((go_at_call 64;exact zaB (HC1.out _)))
        go_wp2
        go_ret
        exact ⟨zae HF.out.symm,zao (zaa w _) _⟩
      · have HF:=Hi (HKF.out hr0)
        clear hr0
        go_enter Tryz.func71,Tryz.ntmps71
        go_wp2
        go_quiet ((go_at_call 64;exact zaB (HC1.out _)))
        go_wp2
        go_ret
        exact ⟨zae HF.out.symm,zao (zaa w _) _⟩
      · have HF:=Hi (HKF.out hr0)
        have C3:=HC2.out
        rw [hnb] at C3
        have HC3:=Hi C3
        clear hr0 hnb C3
        go_enter Tryz.func71,Tryz.ntmps71
        go_wp2
        go_quiet ((go_at_call 64;exact zaB (HC1.out _)))
        go_wp2_with fail
        refine (HC3.out _).mono ?_
        rintro e w5 ⟨rfl,hb5⟩
        go_wp2
        go_ret
        exact ⟨zae HF.out.symm,zac (zao HBX.out _) hb5 (zao HBX.out _).size⟩
      · have HT:=Hi hr0
        have C3:=HC2.out
        rw [hnb] at C3
        have HC3:=Hi C3
        clear hr0 hnb C3 HKF
        go_enter Tryz.func71,Tryz.ntmps71
        go_wp2
        go_quiet ((go_at_call 64;exact zaB (HC1.out _)))
        go_wp2_with fail
        refine (HC3.out _).mono ?_
        rintro e w5 ⟨rfl,hb5⟩
        have HB5:=Hi (zac (zao HBX.out _) hb5 (zao HBX.out _).size)
        obtain ⟨z0,z1,z2,z3,-,-,-,-⟩:=(((XV.new w 3 0 nm A ks.length c).below (zao (Below.refl _ _) _)).below hb5).cells
        clear hb5
        go_wp2
        go_loopg [57] (ks.length+1) (fun g v wr=>SlX w (fun y=>bltG d y=true) ks g v wr)
        case atStart=>exact ⟨0,Nat.zero_le _,by omega,rfl,fun j x h=>absurd h (Nat.not_lt_zero _),HB5.out⟩
        case round =>
          obtain ⟨k,hk,hg,rfl,hall,hb⟩:=hrel
          have HALL:=Hi hall
          clear hall
          have hsz:=hb.size
          by_cases hlt:k<ks.length
          case neg =>
            have HF:=Hi (HBA.out HT.out k HALL.out (by omega))
            have HBW:=Hi hb
            clear hb
            go_wp2
            go_ret
            exact ⟨zae HF.out.symm,HBW.out⟩
          obtain ⟨d',b,o,op2,n2,nm2,A2,c2,ys,hd',hA,hSb,hky,hc2,hm2,hp2,hr2,hxb⟩:=zfA (HR.out.mono (ExC.mono _) (fun b q=>q) (zab hb fun b q=>q)) hlt
          subst hA
          obtain ⟨y0,y1,y2,y3⟩:=hxb
          have hbk:b<wr.heap.size:=by omega
          have hbx:=zaa wr (Obj.cells #[.int .i64 op2,.int .i64 n2,.string ⟨nm2.toArray⟩,.slice A2 ys.length c2] 48)
          have hys:ys.length≤9223372036854775807:=by unfold maxLen at hm2;omega
          have C1:=HIH.out d' (by omega) op2 n2 nm2 A2 c2 ys (wr.alloc (Obj.cells #[.int .i64 op2,.int .i64 n2,.string ⟨nm2.toArray⟩,.slice A2 ys.length c2] 48)) hp2 hys (hr2.mono (ExC.mono _) (fun b q=>by simp only [World.size_alloc];omega) (zab hbx fun b q=>by omega))
          rw [← hd'] at C1
          unfold exV at C1
          obtain ⟨r2,hr2e⟩:∃ r2,bltG d (.mk op2 n2 nm2 ys)=r2:=⟨_,rfl⟩
          rw [hr2e] at C1
          have HC4:=Hi C1
          have HE:=Hi hr2e
          have HKY:=Hi hky
          have HBX2:=Hi (zac hb hbx hb.size)
          clear hr2 C1 hp2 hky hb hbx hSb hc2 hd' hr2e
          unfold maxLen at hm2
          cases r2 with
          | false =>
            have HF:=Hi (HBB.out k _ HKY.out HE.out)
            go_wp2_with fail
            refine HC4.out.mono ?_
            rintro e w5 ⟨rfl,hb5⟩
            go_wp2
            go_ret
            exact ⟨zae HF.out.symm,zac HBX2.out hb5 HBX2.out.size⟩
          | true =>
            go_wp2_with fail
            refine HC4.out.mono ?_
            rintro e w5 ⟨rfl,hb5⟩
            go_wp2
            go_roundg (ks.length-k)
            case measure=>omega
            case rel=>exact ⟨k+1,by omega,by omega,by go_num,zcK HALL.out HKY.out HE.out,zac HBX2.out hb5 HBX2.out.size⟩
    · have d3:(op == 3)=false:=by simp [h3]
      have d4:(op != 3)=true:=by simp [h3]
      rcases hcase with ⟨h,-⟩ | ⟨rfl,rfl⟩ | ⟨rfl,rfl⟩ | ⟨rfl,rfl⟩ | ⟨rfl,rfl⟩ | ⟨o1,o2,-,o3,o4,rfl⟩
      · exact absurd h h3
      · clear h3
        rcases h with ⟨h1,hr0⟩ | ⟨h1,h2,hr0⟩ | ⟨h1,h2,r1,hr0⟩ | ⟨h1,h2,r1,hr0⟩
        · have HF:=Hi (HKF.out hr0)
          clear hr0
          go_enter Tryz.func71,Tryz.ntmps71
          go_wp2
          go_quiet ((go_at_call 64;exact zaB (HC1.out _)))
          go_wp2
          go_ret
          exact ⟨zae HF.out.symm,zao (zaa w _) _⟩
        · have HF:=Hi (HKF.out hr0)
          clear hr0
          go_enter Tryz.func71,Tryz.ntmps71
          go_wp2
          go_quiet ((go_at_call 64;exact zaB (HC1.out _)))
          go_wp2
          go_ret
          exact ⟨zae HF.out.symm,zao (zaa w _) _⟩
        · have HF:=Hi (HKF.out hr0)
          have r2:(!nm.isEmpty)=true:=by simp [r1]
          clear hr0
          go_enter Tryz.func71,Tryz.ntmps71
          go_wp2
          go_quiet ((go_at_call 64;exact zaB (HC1.out _)))
          go_wp2
          go_ret
          exact ⟨zae HF.out.symm,zao (zaa w _) _⟩
        · have HT:=Hi hr0
          have r2:(!nm.isEmpty)=false:=by simp [r1]
          clear hr0 HKF
          go_enter Tryz.func71,Tryz.ntmps71
          go_wp2
          go_quiet ((go_at_call 64;exact zaB (HC1.out _)))
          have HB5:=Hi (fun m=>zao HBX.out m)
          go_wp2
          go_loopg [57] (ks.length+1) (fun g v wr=>SlX w (fun y=>bltG d y=true) ks g v wr)
          case atStart=>exact ⟨0,Nat.zero_le _,by omega,rfl,fun j x h=>absurd h (Nat.not_lt_zero _),HB5.out _⟩
          case round =>
            obtain ⟨k,hk,hg,rfl,hall,hb⟩:=hrel
            have HALL:=Hi hall
            clear hall
            have hsz:=hb.size
            by_cases hlt:k<ks.length
            case neg =>
              have HF:=Hi (HBA.out HT.out k HALL.out (by omega))
              have HBW:=Hi hb
              clear hb
              go_wp2
              go_ret
              exact ⟨zae HF.out.symm,HBW.out⟩
            obtain ⟨d',b,o,op2,n2,nm2,A2,c2,ys,hd',hA,hSb,hky,hc2,hm2,hp2,hr2,hxb⟩:=zfA (HR.out.mono (ExC.mono _) (fun b q=>q) (zab hb fun b q=>q)) hlt
            subst hA
            obtain ⟨y0,y1,y2,y3⟩:=hxb
            have hbk:b<wr.heap.size:=by omega
            have hbx:=zaa wr (Obj.cells #[.int .i64 op2,.int .i64 n2,.string ⟨nm2.toArray⟩,.slice A2 ys.length c2] 48)
            have hys:ys.length≤9223372036854775807:=by unfold maxLen at hm2;omega
            have C1:=HIH.out d' (by omega) op2 n2 nm2 A2 c2 ys (wr.alloc (Obj.cells #[.int .i64 op2,.int .i64 n2,.string ⟨nm2.toArray⟩,.slice A2 ys.length c2] 48)) hp2 hys (hr2.mono (ExC.mono _) (fun b q=>by simp only [World.size_alloc];omega) (zab hbx fun b q=>by omega))
            rw [← hd'] at C1
            unfold exV at C1
            obtain ⟨r2,hr2e⟩:∃ r2,bltG d (.mk op2 n2 nm2 ys)=r2:=⟨_,rfl⟩
            rw [hr2e] at C1
            have HC4:=Hi C1
            have HE:=Hi hr2e
            have HKY:=Hi hky
            have HBX2:=Hi (zac hb hbx hb.size)
            clear hr2 C1 hp2 hky hb hbx hSb hc2 hd' hr2e
            unfold maxLen at hm2
            cases r2 with
            | false =>
              have HF:=Hi (HBB.out k _ HKY.out HE.out)
              go_wp2_with fail
              refine HC4.out.mono ?_
              rintro e w5 ⟨rfl,hb5⟩
              go_wp2
              go_ret
              exact ⟨zae HF.out.symm,zac HBX2.out hb5 HBX2.out.size⟩
            | true =>
              go_wp2_with fail
              refine HC4.out.mono ?_
              rintro e w5 ⟨rfl,hb5⟩
              go_wp2
              go_roundg (ks.length-k)
              case measure=>omega
              case rel=>exact ⟨k+1,by omega,by omega,by go_num,zcK HALL.out HKY.out HE.out,zac HBX2.out hb5 HBX2.out.size⟩
      · clear h3
        rcases h with ⟨h1,hr0⟩ | ⟨h1,h2,hr0⟩ | ⟨h1,h2,r1,hr0⟩ | ⟨h1,h2,r1,hr0⟩
        · have HF:=Hi (HKF.out hr0)
          clear hr0
          go_enter Tryz.func71,Tryz.ntmps71
          go_wp2
          go_quiet ((go_at_call 64;exact zaB (HC1.out _)))
          go_wp2
          go_ret
          exact ⟨zae HF.out.symm,zao (zaa w _) _⟩
        · have HF:=Hi (HKF.out hr0)
          clear hr0
          go_enter Tryz.func71,Tryz.ntmps71
          go_wp2
          go_quiet ((go_at_call 64;exact zaB (HC1.out _)))
          go_wp2
          go_ret
          exact ⟨zae HF.out.symm,zao (zaa w _) _⟩
        · have HF:=Hi (HKF.out hr0)
          have r2:(!nm.isEmpty)=true:=by simp [r1]
          clear hr0
          go_enter Tryz.func71,Tryz.ntmps71
          go_wp2
          go_quiet ((go_at_call 64;exact zaB (HC1.out _)))
          go_wp2
          go_ret
          exact ⟨zae HF.out.symm,zao (zaa w _) _⟩
        · have HT:=Hi hr0
          have r2:(!nm.isEmpty)=false:=by simp [r1]
          clear hr0 HKF
          go_enter Tryz.func71,Tryz.ntmps71
          go_wp2
          go_quiet ((go_at_call 64;exact zaB (HC1.out _)))
          have HB5:=Hi (fun m=>zao HBX.out m)
          go_wp2
          go_loopg [57] (ks.length+1) (fun g v wr=>SlX w (fun y=>bltG d y=true) ks g v wr)
          case atStart=>exact ⟨0,Nat.zero_le _,by omega,rfl,fun j x h=>absurd h (Nat.not_lt_zero _),HB5.out _⟩
          case round =>
            obtain ⟨k,hk,hg,rfl,hall,hb⟩:=hrel
            have HALL:=Hi hall
            clear hall
            have hsz:=hb.size
            by_cases hlt:k<ks.length
            case neg =>
              have HF:=Hi (HBA.out HT.out k HALL.out (by omega))
              have HBW:=Hi hb
              clear hb
              go_wp2
              go_ret
              exact ⟨zae HF.out.symm,HBW.out⟩
            obtain ⟨d',b,o,op2,n2,nm2,A2,c2,ys,hd',hA,hSb,hky,hc2,hm2,hp2,hr2,hxb⟩:=zfA (HR.out.mono (ExC.mono _) (fun b q=>q) (zab hb fun b q=>q)) hlt
            subst hA
            obtain ⟨y0,y1,y2,y3⟩:=hxb
            have hbk:b<wr.heap.size:=by omega
            have hbx:=zaa wr (Obj.cells #[.int .i64 op2,.int .i64 n2,.string ⟨nm2.toArray⟩,.slice A2 ys.length c2] 48)
            have hys:ys.length≤9223372036854775807:=by unfold maxLen at hm2;omega
            have C1:=HIH.out d' (by omega) op2 n2 nm2 A2 c2 ys (wr.alloc (Obj.cells #[.int .i64 op2,.int .i64 n2,.string ⟨nm2.toArray⟩,.slice A2 ys.length c2] 48)) hp2 hys (hr2.mono (ExC.mono _) (fun b q=>by simp only [World.size_alloc];omega) (zab hbx fun b q=>by omega))
            rw [← hd'] at C1
            unfold exV at C1
            obtain ⟨r2,hr2e⟩:∃ r2,bltG d (.mk op2 n2 nm2 ys)=r2:=⟨_,rfl⟩
            rw [hr2e] at C1
            have HC4:=Hi C1
            have HE:=Hi hr2e
            have HKY:=Hi hky
            have HBX2:=Hi (zac hb hbx hb.size)
            clear hr2 C1 hp2 hky hb hbx hSb hc2 hd' hr2e
            unfold maxLen at hm2
            cases r2 with
            | false =>
              have HF:=Hi (HBB.out k _ HKY.out HE.out)
              go_wp2_with fail
              refine HC4.out.mono ?_
              rintro e w5 ⟨rfl,hb5⟩
              go_wp2
              go_ret
              exact ⟨zae HF.out.symm,zac HBX2.out hb5 HBX2.out.size⟩
            | true =>
              go_wp2_with fail
              refine HC4.out.mono ?_
              rintro e w5 ⟨rfl,hb5⟩
              go_wp2
              go_roundg (ks.length-k)
              case measure=>omega
              case rel=>exact ⟨k+1,by omega,by omega,by go_num,zcK HALL.out HKY.out HE.out,zac HBX2.out hb5 HBX2.out.size⟩
      · clear h3
        rcases h with ⟨h1,hr0⟩ | ⟨h1,h2,hr0⟩ | ⟨h1,h2,r1,hr0⟩ | ⟨h1,h2,r1,hr0⟩
        · have HF:=Hi (HKF.out hr0)
          clear hr0
          go_enter Tryz.func71,Tryz.ntmps71
          go_wp2
          go_quiet ((go_at_call 64;exact zaB (HC1.out _)))
          go_wp2
          go_ret
          exact ⟨zae HF.out.symm,zao (zaa w _) _⟩
        · have HF:=Hi (HKF.out hr0)
          clear hr0
          go_enter Tryz.func71,Tryz.ntmps71
          go_wp2
          go_quiet ((go_at_call 64;exact zaB (HC1.out _)))
          go_wp2
          go_ret
          exact ⟨zae HF.out.symm,zao (zaa w _) _⟩
        · have HF:=Hi (HKF.out hr0)
          have r2:(!nm.isEmpty)=true:=by simp [r1]
          clear hr0
          go_enter Tryz.func71,Tryz.ntmps71
          go_wp2
          go_quiet ((go_at_call 64;exact zaB (HC1.out _)))
          go_wp2
          go_ret
          exact ⟨zae HF.out.symm,zao (zaa w _) _⟩
        · have HT:=Hi hr0
          have r2:(!nm.isEmpty)=false:=by simp [r1]
          clear hr0 HKF
          go_enter Tryz.func71,Tryz.ntmps71
          go_wp2
          go_quiet ((go_at_call 64;exact zaB (HC1.out _)))
          have HB5:=Hi (fun m=>zao HBX.out m)
          go_wp2
          go_loopg [57] (ks.length+1) (fun g v wr=>SlX w (fun y=>bltG d y=true) ks g v wr)
          case atStart=>exact ⟨0,Nat.zero_le _,by omega,rfl,fun j x h=>absurd h (Nat.not_lt_zero _),HB5.out _⟩
          case round =>
            obtain ⟨k,hk,hg,rfl,hall,hb⟩:=hrel
            have HALL:=Hi hall
            clear hall
            have hsz:=hb.size
            by_cases hlt:k<ks.length
            case neg =>
              have HF:=Hi (HBA.out HT.out k HALL.out (by omega))
              have HBW:=Hi hb
              clear hb
              go_wp2
              go_ret
              exact ⟨zae HF.out.symm,HBW.out⟩
            obtain ⟨d',b,o,op2,n2,nm2,A2,c2,ys,hd',hA,hSb,hky,hc2,hm2,hp2,hr2,hxb⟩:=zfA (HR.out.mono (ExC.mono _) (fun b q=>q) (zab hb fun b q=>q)) hlt
            subst hA
            obtain ⟨y0,y1,y2,y3⟩:=hxb
            have hbk:b<wr.heap.size:=by omega
            have hbx:=zaa wr (Obj.cells #[.int .i64 op2,.int .i64 n2,.string ⟨nm2.toArray⟩,.slice A2 ys.length c2] 48)
            have hys:ys.length≤9223372036854775807:=by unfold maxLen at hm2;omega
            have C1:=HIH.out d' (by omega) op2 n2 nm2 A2 c2 ys (wr.alloc (Obj.cells #[.int .i64 op2,.int .i64 n2,.string ⟨nm2.toArray⟩,.slice A2 ys.length c2] 48)) hp2 hys (hr2.mono (ExC.mono _) (fun b q=>by simp only [World.size_alloc];omega) (zab hbx fun b q=>by omega))
            rw [← hd'] at C1
            unfold exV at C1
            obtain ⟨r2,hr2e⟩:∃ r2,bltG d (.mk op2 n2 nm2 ys)=r2:=⟨_,rfl⟩
            rw [hr2e] at C1
            have HC4:=Hi C1
            have HE:=Hi hr2e
            have HKY:=Hi hky
            have HBX2:=Hi (zac hb hbx hb.size)
            clear hr2 C1 hp2 hky hb hbx hSb hc2 hd' hr2e
            unfold maxLen at hm2
            cases r2 with
            | false =>
              have HF:=Hi (HBB.out k _ HKY.out HE.out)
              go_wp2_with fail
              refine HC4.out.mono ?_
              rintro e w5 ⟨rfl,hb5⟩
              go_wp2
              go_ret
              exact ⟨zae HF.out.symm,zac HBX2.out hb5 HBX2.out.size⟩
            | true =>
              go_wp2_with fail
              refine HC4.out.mono ?_
              rintro e w5 ⟨rfl,hb5⟩
              go_wp2
              go_roundg (ks.length-k)
              case measure=>omega
              case rel=>exact ⟨k+1,by omega,by omega,by go_num,zcK HALL.out HKY.out HE.out,zac HBX2.out hb5 HBX2.out.size⟩
      · clear h3
        rcases h with ⟨h1,hr0⟩ | ⟨h1,h2,hr0⟩ | ⟨h1,h2,r1,hr0⟩ | ⟨h1,h2,r1,hr0⟩
        · have HF:=Hi (HKF.out hr0)
          clear hr0
          go_enter Tryz.func71,Tryz.ntmps71
          go_wp2
          go_quiet ((go_at_call 64;exact zaB (HC1.out _)))
          go_wp2
          go_ret
          exact ⟨zae HF.out.symm,zao (zaa w _) _⟩
        · have HF:=Hi (HKF.out hr0)
          clear hr0
          go_enter Tryz.func71,Tryz.ntmps71
          go_wp2
          go_quiet ((go_at_call 64;exact zaB (HC1.out _)))
          go_wp2
          go_ret
          exact ⟨zae HF.out.symm,zao (zaa w _) _⟩
        · have HF:=Hi (HKF.out hr0)
          have r2:(!nm.isEmpty)=true:=by simp [r1]
          clear hr0
          go_enter Tryz.func71,Tryz.ntmps71
          go_wp2
          go_quiet ((go_at_call 64;exact zaB (HC1.out _)))
          go_wp2
          go_ret
          exact ⟨zae HF.out.symm,zao (zaa w _) _⟩
        · have HT:=Hi hr0
          have r2:(!nm.isEmpty)=false:=by simp [r1]
          clear hr0 HKF
          go_enter Tryz.func71,Tryz.ntmps71
          go_wp2
          go_quiet ((go_at_call 64;exact zaB (HC1.out _)))
          have HB5:=Hi (fun m=>zao HBX.out m)
          go_wp2
          go_loopg [57] (ks.length+1) (fun g v wr=>SlX w (fun y=>bltG d y=true) ks g v wr)
          case atStart=>exact ⟨0,Nat.zero_le _,by omega,rfl,fun j x h=>absurd h (Nat.not_lt_zero _),HB5.out _⟩
          case round =>
            obtain ⟨k,hk,hg,rfl,hall,hb⟩:=hrel
            have HALL:=Hi hall
            clear hall
            have hsz:=hb.size
            by_cases hlt:k<ks.length
            case neg =>
              have HF:=Hi (HBA.out HT.out k HALL.out (by omega))
              have HBW:=Hi hb
              clear hb
              go_wp2
              go_ret
              exact ⟨zae HF.out.symm,HBW.out⟩
            obtain ⟨d',b,o,op2,n2,nm2,A2,c2,ys,hd',hA,hSb,hky,hc2,hm2,hp2,hr2,hxb⟩:=zfA (HR.out.mono (ExC.mono _) (fun b q=>q) (zab hb fun b q=>q)) hlt
            subst hA
            obtain ⟨y0,y1,y2,y3⟩:=hxb
            have hbk:b<wr.heap.size:=by omega
            have hbx:=zaa wr (Obj.cells #[.int .i64 op2,.int .i64 n2,.string ⟨nm2.toArray⟩,.slice A2 ys.length c2] 48)
            have hys:ys.length≤9223372036854775807:=by unfold maxLen at hm2;omega
            have C1:=HIH.out d' (by omega) op2 n2 nm2 A2 c2 ys (wr.alloc (Obj.cells #[.int .i64 op2,.int .i64 n2,.string ⟨nm2.toArray⟩,.slice A2 ys.length c2] 48)) hp2 hys (hr2.mono (ExC.mono _) (fun b q=>by simp only [World.size_alloc];omega) (zab hbx fun b q=>by omega))
            rw [← hd'] at C1
            unfold exV at C1
            obtain ⟨r2,hr2e⟩:∃ r2,bltG d (.mk op2 n2 nm2 ys)=r2:=⟨_,rfl⟩
            rw [hr2e] at C1
            have HC4:=Hi C1
            have HE:=Hi hr2e
            have HKY:=Hi hky
            have HBX2:=Hi (zac hb hbx hb.size)
            clear hr2 C1 hp2 hky hb hbx hSb hc2 hd' hr2e
            unfold maxLen at hm2
            cases r2 with
            | false =>
              have HF:=Hi (HBB.out k _ HKY.out HE.out)
              go_wp2_with fail
              refine HC4.out.mono ?_
              rintro e w5 ⟨rfl,hb5⟩
              go_wp2
              go_ret
              exact ⟨zae HF.out.symm,zac HBX2.out hb5 HBX2.out.size⟩
            | true =>
              go_wp2_with fail
              refine HC4.out.mono ?_
              rintro e w5 ⟨rfl,hb5⟩
              go_wp2
              go_roundg (ks.length-k)
              case measure=>omega
              case rel=>exact ⟨k+1,by omega,by omega,by go_num,zcK HALL.out HKY.out HE.out,zac HBX2.out hb5 HBX2.out.size⟩
      · clear h3
        have e1:(op == 1)=false:=by simp [o1]
        have e2:(op == 2)=false:=by simp [o2]
        have e3:(op == 19)=false:=by simp [o3]
        have e4:(op == 20)=false:=by simp [o4]
        clear o1 o2 o3 o4
        rcases h with ⟨h1,hr0⟩ | ⟨h1,h2,hr0⟩ | ⟨h1,h2,r1,hr0⟩ | ⟨h1,h2,r1,hr0⟩
        · have HF:=Hi (HKF.out hr0)
          clear hr0
          go_enter Tryz.func71,Tryz.ntmps71
          go_wp2
          go_quiet ((go_at_call 64;exact zaB (HC1.out _)))
          go_wp2
          go_ret
          exact ⟨zae HF.out.symm,zao (zaa w _) _⟩
        · have HF:=Hi (HKF.out hr0)
          clear hr0
          go_enter Tryz.func71,Tryz.ntmps71
          go_wp2
          go_quiet ((go_at_call 64;exact zaB (HC1.out _)))
          go_wp2
          go_ret
          exact ⟨zae HF.out.symm,zao (zaa w _) _⟩
        · have HF:=Hi (HKF.out hr0)
          have r2:(!nm.isEmpty)=true:=by simp [r1]
          clear hr0
          go_enter Tryz.func71,Tryz.ntmps71
          go_wp2
          go_quiet ((go_at_call 64;exact zaB (HC1.out _)))
          go_wp2
          go_ret
          exact ⟨zae HF.out.symm,zao (zaa w _) _⟩
        · have HT:=Hi hr0
          have r2:(!nm.isEmpty)=false:=by simp [r1]
          clear hr0 HKF
          go_enter Tryz.func71,Tryz.ntmps71
          go_wp2
          go_quiet ((go_at_call 64;exact zaB (HC1.out _)))
          have HB5:=Hi (fun m=>zao HBX.out m)
          go_wp2
          go_loopg [57] (ks.length+1) (fun g v wr=>SlX w (fun y=>bltG d y=true) ks g v wr)
          case atStart=>exact ⟨0,Nat.zero_le _,by omega,rfl,fun j x h=>absurd h (Nat.not_lt_zero _),HB5.out _⟩
          case round =>
            obtain ⟨k,hk,hg,rfl,hall,hb⟩:=hrel
            have HALL:=Hi hall
            clear hall
            have hsz:=hb.size
            by_cases hlt:k<ks.length
            case neg =>
              have HF:=Hi (HBA.out HT.out k HALL.out (by omega))
              have HBW:=Hi hb
              clear hb
              go_wp2
              go_ret
              exact ⟨zae HF.out.symm,HBW.out⟩
            obtain ⟨d',b,o,op2,n2,nm2,A2,c2,ys,hd',hA,hSb,hky,hc2,hm2,hp2,hr2,hxb⟩:=zfA (HR.out.mono (ExC.mono _) (fun b q=>q) (zab hb fun b q=>q)) hlt
            subst hA
            obtain ⟨y0,y1,y2,y3⟩:=hxb
            have hbk:b<wr.heap.size:=by omega
            have hbx:=zaa wr (Obj.cells #[.int .i64 op2,.int .i64 n2,.string ⟨nm2.toArray⟩,.slice A2 ys.length c2] 48)
            have hys:ys.length≤9223372036854775807:=by unfold maxLen at hm2;omega
            have C1:=HIH.out d' (by omega) op2 n2 nm2 A2 c2 ys (wr.alloc (Obj.cells #[.int .i64 op2,.int .i64 n2,.string ⟨nm2.toArray⟩,.slice A2 ys.length c2] 48)) hp2 hys (hr2.mono (ExC.mono _) (fun b q=>by simp only [World.size_alloc];omega) (zab hbx fun b q=>by omega))
            rw [← hd'] at C1
            unfold exV at C1
            obtain ⟨r2,hr2e⟩:∃ r2,bltG d (.mk op2 n2 nm2 ys)=r2:=⟨_,rfl⟩
            rw [hr2e] at C1
            have HC4:=Hi C1
            have HE:=Hi hr2e
            have HKY:=Hi hky
            have HBX2:=Hi (zac hb hbx hb.size)
            clear hr2 C1 hp2 hky hb hbx hSb hc2 hd' hr2e
            unfold maxLen at hm2
            cases r2 with
            | false =>
              have HF:=Hi (HBB.out k _ HKY.out HE.out)
              go_wp2_with fail
              refine HC4.out.mono ?_
              rintro e w5 ⟨rfl,hb5⟩
              go_wp2
              go_ret
              exact ⟨zae HF.out.symm,zac HBX2.out hb5 HBX2.out.size⟩
            | true =>
              go_wp2_with fail
              refine HC4.out.mono ?_
              rintro e w5 ⟨rfl,hb5⟩
              go_wp2
              go_roundg (ks.length-k)
              case measure=>omega
              case rel=>exact ⟨k+1,by omega,by omega,by go_num,zcK HALL.out HKY.out HE.out,zac HBX2.out hb5 HBX2.out.size⟩
theorem rw_inG {d n:Nat} {w:World} {S:Nat→Prop} {A:Option Addr} {ks:List Ex} (hn:ks.length=n) (h:Rw (ExC d) 4 w S A n ks):∀ k∈ks,inG d k:=by
  have key:∀ (d:Nat) (cs:List Value) (x:Ex),ExC d w S cs x→inG d x:=by
    intro d
    induction d with
    | zero=>intro cs x h;exact h.elim
    | succ d ih =>
      intro cs x h;obtain ⟨op,n,nm,ks⟩:=x;obtain ⟨A,c,-,-,-,-,hr⟩:=h;intro k hk;obtain ⟨j,hj,rfl⟩:=List.getElem_of_mem hk;obtain ⟨_,_,cs',x,_,_,hx,_,hc,_⟩:=hr.at_ hj;rw [List.getElem?_eq_getElem hj] at hx
      cases hx
      exact ih _ _ hc
  intro k hk;obtain ⟨j,hj,rfl⟩:=List.getElem_of_mem hk;obtain ⟨_,_,cs',x,_,_,hx,_,hc,_⟩:=h.at_ (k:=j) (by omega);rw [List.getElem?_eq_getElem hj] at hx
  cases hx
  exact key _ _ _ hc
theorem zga {w:World} {op n:Int} {nm:List UInt8} {A:Option Addr} {c:Nat} {ks:List Ex} (h:XI w op n nm A c ks) (hs:∀ d,inG d (.mk op n nm ks)→szG d (.mk op n nm ks)≤1000000000000000000) :
    Calls Tryz.prog 44 #[.agg #[.int .i64 op,.int .i64 n,.string ⟨nm.toArray⟩,.slice A ks.length c]] w (RetB (zaR (.mk op n nm ks)) w):=by
  obtain ⟨d,hd⟩:=rw_ex h.rw;have hin:inG (d+1) (.mk op n nm ks):=rw_inG rfl hd;have hz:=hs (d+1) hin;have hdz:=zkR (d+1) (.mk op n nm ks);have hv:=zhq hin;have hl:ks.length≤9223372036854775807:=by have:=h.hc;have:=h.hm;unfold maxLen at this;omega
  have hbx:=zaa w (Obj.cells #[.int .i64 op,.int .i64 n,.string ⟨nm.toArray⟩,.slice A ks.length c] 48);have hX:=XV.new w op n nm A ks.length c
  have C1:=fun W (hk:Below (w.alloc (Obj.cells #[.int .i64 op,.int .i64 n,.string ⟨nm.toArray⟩,.slice A ks.length c] 48)).heap.size (w.alloc (Obj.cells #[.int .i64 op,.int .i64 n,.string ⟨nm.toArray⟩,.slice A ks.length c] 48)) W) =>
    zhY d op n nm A c ks W (by omega) hl (hd.mono (ExC.mono _) (fun b q=>Nat.lt_of_lt_of_le q (Nat.le_trans hbx.size hk.size)) (zab (zac hbx hk hbx.size) fun _ q=>q))
  have C2:=fun W (hk:Below (w.alloc (Obj.cells #[.int .i64 op,.int .i64 n,.string ⟨nm.toArray⟩,.slice A ks.length c] 48)).heap.size (w.alloc (Obj.cells #[.int .i64 op,.int .i64 n,.string ⟨nm.toArray⟩,.slice A ks.length c] 48)) W) =>
    zjs d op n nm A c ks W hz hl (hd.mono (ExC.mono _) (fun b q=>Nat.lt_of_lt_of_le q (Nat.le_trans hbx.size hk.size)) (zab (zac hbx hk hbx.size) fun _ q=>q))
  have C3:=fun W (hk:Below (w.alloc (Obj.cells #[.int .i64 op,.int .i64 n,.string ⟨nm.toArray⟩,.slice A ks.length c] 48)).heap.size (w.alloc (Obj.cells #[.int .i64 op,.int .i64 n,.string ⟨nm.toArray⟩,.slice A ks.length c] 48)) W) =>
    zil d op n nm A c ks W h.hp hl (hd.mono (ExC.mono _) (fun b q=>Nat.lt_of_lt_of_le q (Nat.le_trans hbx.size hk.size)) (zab (zac hbx hk hbx.size) fun _ q=>q))
  unfold exV at C1 C2 C3;generalize szG (d+1) (.mk op n nm ks)=sz at *;generalize dpG (d+1) (.mk op n nm ks)=dp at *;generalize bltG (d+1) (.mk op n nm ks)=bl at *;have HV:=Hi hv;have HC1:=Hi (C1 _ (Below.refl _ _));have HC2:=Hi C2;have HC3:=Hi C3;have HB:=Hi hbx;have HX:=Hi hX;clear hv C1 C2 C3 hbx hX h hd hin hs;go_enter Tryz.func44,Tryz.ntmps44;go_wp2_with fail
  refine HC1.out.mono ?_
  rintro e w1 ⟨rfl,hb1⟩
  have HB1:=Hi hb1;have HBB1:=Hi (zac HB.out hb1 HB.out.size);obtain ⟨x0,x1,x2,x3,-,-,-,-⟩:=(HX.out.below hb1).cells;clear hb1
  by_cases h16:dp≤16
  case neg =>
    have d1:¬ (dp:Int)≤16:=by omega
    have HF:=Hi (show zaR (.mk op n nm ks)=false by rw [HV.out];simp [h16]);clear h16;go_wp2;go_ret
    exact ⟨zae (by rw [HF.out]),HBB1.out⟩
  have d1:(dp:Int)≤16:=by omega
  have HC2':=Hi (HC2.out w1 HB1.out);clear HC2;go_wp2_with fail
  refine HC2'.out.mono ?_
  rintro e w2 ⟨rfl,hb2⟩
  have HB2:=Hi (zac HB1.out hb2 HB1.out.size);have HBB2:=Hi (zac HBB1.out hb2 HBB1.out.size);clear x0 x1 x2 x3;obtain ⟨x0,x1,x2,x3,-,-,-,-⟩:=(HX.out.below HB2.out).cells;clear hb2
  by_cases h60:sz≤60
  case neg =>
    have d2:¬ (sz:Int)≤60:=by omega
    have HF:=Hi (show zaR (.mk op n nm ks)=false by rw [HV.out];simp [h60]);clear h60;go_wp2;go_ret
    exact ⟨zae (by rw [HF.out]),HBB2.out⟩
  have d2:(sz:Int)≤60:=by omega
  have HF:=Hi (show zaR (.mk op n nm ks)=bl by rw [HV.out];simp [h16,h60]);have HC3':=Hi (HC3.out w2 HB2.out);clear HC3;go_wp2_with fail
  refine HC3'.out.mono ?_
  rintro e w3 ⟨rfl,hb3⟩
  go_wp2;go_ret
  exact ⟨zae (by rw [HF.out]),zac HBB2.out hb3 HBB2.out.size⟩
end Go.Proofs.YtcikenlflcofbaaGreatDoor
