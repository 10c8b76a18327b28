/-
  The machine of scans: delay; every operation with a cell.
-/
import Derived.Test.YtcikenlflcofbaaGreatDoorMacC
import Derived.Deep.RegionHeld3
import Derived.Test.YtcikenlflcofbaaGreatDoorP2
set_option maxRecDepth 100000
set_option maxHeartbeats 8000000
namespace Go.Proofs.YtcikenlflcofbaaGreatDoor
open Go.RowKit
theorem zdo {w:World} {g b i j:Nat} (v:Value) (h:g≠b):(w.setCell ⟨g,i,none⟩ v).cell? ⟨b,j,none⟩=w.cell? ⟨b,j,none⟩:=
  World.cell?_of_block (a:=⟨b,j,none⟩) (Below.heap_setCell w _ _ b (fun q=>h (by exact q.symm)))
theorem ziq {w:World} {mb base:Nat} {st:List Int} {sv:Value} (x n:Int) (h:MaW w mb base (st++[x]) sv) (hs:st.length≤1000) {b0 g cc N:Nat} {cs:List Cs} (hc:CeW w b0 g cc N cs) {k:Nat} {c:Cs} (hk:cs[k]? = some c) (hg:g<base) (hz:0≤c.n∧c.n≤100000) (hn:0≤n∧n≤100000) :
    Calls Tryz.prog 57 #[.pointer (some ⟨mb,0,none⟩),.agg #[.int .i64 19,.int .i64 n],.pointer (some ⟨g,k*2,none⟩)] w (RetCel mb base (st++[(zbq 19 n c (decide (x=1)) false).1]) b0 g cc N (cs.set k (zbq 19 n c (decide (x=1)) false).2) w sv):=by
  have HX:=Hi (h.below (zaa w (Obj.cells #[.int .i64 19,.int .i64 n] 89)));have HH:=Hi (And.intro h hc);have hgm:=h.lo;have hgs:w.heap.size≠mb:=by have:=h.lt;omega
  have hsv:sv.ownBlock≠some w.heap.size:=fun q=>by have:=(h.st.lt _ q).2;omega
  have HGS:=Hi (And.intro hgs hsv);clear hgs hsv;obtain ⟨on,z⟩:=c;have HK:=Hi hk
  try dsimp only at *
  clear h hc hk;go_enter Tryz.func57,Tryz.ntmps57;go_wp2_with fail
  refine (zaF HX.out (by omega)).mono ?_
  rintro e0 w0 ⟨rfl,s0,hm0,hk0,ho0,hz0⟩
  have HP:=Hi (zeA HH.out.1 HH.out.2 hg hm0 hk0 ho0);clear hm0 hk0 ho0 hz0 HX;have b0:=HP.out.b0;have b1:=HP.out.b1;have hbl:=HP.out.bl;obtain ⟨t0,t1,f0,f1⟩:=HP.out.ce.get HK.out;have hg0:=HP.out.ce.lt;have hgl:=HP.out.hg.1;dsimp only at t0 t1;have hzw : -9223372036854775808≤z+1∧z+1≤9223372036854775807:=by omega
  have hnw : -9223372036854775808≤n+1∧n+1≤9223372036854775807:=by omega
  have HMN:=Hi (show min (z+1) (n+1)=min z n+1 by omega)
  by_cases hx:x=1
  · subst hx
    have HA:=Hi (show decide ((1:Int)=1)=true from rfl)
    have hce:=HP.out.ce.setN HK.out (min z n+1)
    dsimp only at hce
    have HPU0:=fun v=>HP.out.push (W:=((w0.setCell ⟨g,k*2+1,none⟩ (.int .i64 (min z n+1))).drew).drew) (((KB.of_grown (zaf w0 g _ _) (fun b _ q=>by injection q with q;exact q.symm)).trans (zdr _ _)).trans (zdr _ _)) (hce.keep rfl) v hs HGS.out.1 HGS.out.2
    have zb:(w0.setCell ⟨g,k*2+1,none⟩ (.int .i64 (min z n+1))).cell? ⟨w.heap.size,1,none⟩=some (.int .i64 n):=(zdo _ (by omega)).trans b1
    obtain ⟨-,z1,-,-⟩:=hce.get (zcl HK.out _)
    dsimp only at z1
    have HK2:=Hi (zcl HK.out ⟨on,min z n+1⟩)
    clear hce
    go_upto_region 13 with fail
    go_region
    go_upto_region 16 with fail
    generalize (w0.setCell ⟨g,k*2+1,none⟩ (.int .i64 (min z n+1)))=W2 at *
    have HPU:=Hi HPU0
    clear HPU0
    first
      | (go_region_held3 (fun w'=>w'.cell? ⟨g,k*2+1,none⟩=some (.int .i64 (min z n+1))∧w'.cell? ⟨w.heap.size,1,none⟩=some (.int .i64 n)) (go_keep)
          (first
            | ((go_at_call 81;refine (zaU _ _).mono ?_;rintro e5 w5 ⟨rfl,rfl⟩))
            | ((go_at_call 54;refine (HPU.out _).mono ?_;rintro e w9 ⟨⟨rfl,hres⟩,bx9,bl9⟩;have hres2:=hres;obtain ⟨sv9,-,hc9,-,-⟩:=hres2;obtain ⟨-,u1,-,-⟩:=hc9.get HK2.out))))
      | fail
    all_goals
      have HR:=Hi (show RetCel mb base _ _ g cc N _ w sv (.returned (.tuple #[])) w9 from ⟨rfl,hres⟩)
      clear hres
      go_wp2
      go_end0
      exact HR.out.to (by rw [HA.out];show _=st++[bitP (decide (n<min (z+1) (n+1)))];rw [HMN.out]) (by rw [HA.out];show _=cs.set k ⟨on,min (z+1) (n+1)⟩;rw [HMN.out])
  · have hb:(x == 1)=false:=by simpa using hx
    have HA:=Hi (show decide (x=1)=false by simpa using hx)
    have hce:=(HP.out.ce.setN HK.out (min z n+1)).setN (zcl HK.out _) 0
    rw [set_set] at hce
    dsimp only at hce
    have HPU0:=HP.out.push (W:=(((w0.setCell ⟨g,k*2+1,none⟩ (.int .i64 (min z n+1))).setCell ⟨g,k*2+1,none⟩ (.int .i64 0)).drew).drew) ((((KB.of_grown (zaf w0 g _ _) (fun b _ q=>by injection q with q;exact q.symm)).trans (KB.of_grown (zaf _ g _ _) (fun b _ q=>by injection q with q;exact q.symm))).trans (zdr _ _)).trans (zdr _ _)) (hce.keep rfl) (bitP false) hs HGS.out.1 HGS.out.2
    have zb:((w0.setCell ⟨g,k*2+1,none⟩ (.int .i64 (min z n+1))).setCell ⟨g,k*2+1,none⟩ (.int .i64 0)).cell? ⟨w.heap.size,1,none⟩=some (.int .i64 n):=(zdo _ (by omega)).trans ((zdo _ (by omega)).trans b1)
    obtain ⟨-,z1,-,-⟩:=hce.get (zcl HK.out _)
    dsimp only at z1
    have HK2:=Hi (zcl HK.out ⟨on,0⟩)
    clear hx hce
    go_upto_region 13 with fail
    go_region
    go_upto_region 16 with fail
    generalize ((w0.setCell ⟨g,k*2+1,none⟩ (.int .i64 (min z n+1))).setCell ⟨g,k*2+1,none⟩ (.int .i64 0))=W2 at *
    have HPU:=Hi HPU0
    clear HPU0
    first
      | (go_region_law (first | ((go_simp;go_at_call 81;refine (zaU _ _).mono ?_;rintro e5 w5 ⟨rfl,rfl⟩)) | ((go_simp;go_at_call 54;refine HPU.out.mono ?_;rintro e w9 ⟨⟨rfl,hres⟩,-,-⟩))))
      | fail
    all_goals
      have HR:=Hi (show RetCel mb base _ _ g cc N _ w sv (.returned (.tuple #[])) w9 from ⟨rfl,hres⟩)
      clear hres
      go_wp2
      go_end0
      exact HR.out.to (by rw [HA.out];rfl) (by rw [HA.out];rfl)
theorem zjQ {w:World} {mb base:Nat} {st args:List Int} {sv:Value} {op n:Int} (h17:17≤op∧op≤22) (hl:opnP op=args.length) (hn:0≤n∧n≤100000) (h:MaW w mb base (st++args) sv) (hs:st.length≤1000) {b0 g cc N:Nat} {cs:List Cs} (hc:CeW w b0 g cc N cs) {k:Nat} {c:Cs} (hk:cs[k]? = some c) (hz:0≤c.n∧c.n≤100000) (hg:g<base) :
    Calls Tryz.prog 57 #[.pointer (some ⟨mb,0,none⟩),.agg #[.int .i64 op,.int .i64 n],.pointer (some ⟨g,k*2,none⟩)] w (RetCel mb base (st++[(zbq op n c (decide (args.getD 0 0=1)) (decide (args.getD 1 0=1))).1]) b0 g cc N (cs.set k (zbq op n c (decide (args.getD 0 0=1)) (decide (args.getD 1 0=1))).2) w sv):=by
  have hop:(op=17∨op=18∨op=19∨op=20)∨(op=21∨op=22):=by omega
  rcases hop with hop | hop
  · obtain ⟨x,rfl⟩:=zcs (l:=args) (by
      have:opnP op=1:=by rcases hop with rfl | rfl | rfl | rfl <;> decide
      omega)
    have e0:([x]:List Int).getD 0 0=x:=rfl;have e1:decide (([x]:List Int).getD 1 0=1)=false:=rfl;rw [e0,e1]
    rcases hop with rfl | rfl | rfl | rfl
    · exact zjP x n h hs hc hk hg
    · exact zjN x n h hs hc hk hg
    · exact ziq x n h hs hc hk hg hz hn
    · exact zjO x n h hs hc hk hg hz
  · obtain ⟨x,y,rfl⟩:=zeZ (l:=args) (by
      have:opnP op=2:=by rcases hop with rfl | rfl <;> decide
      omega)
    have e0:([x,y]:List Int).getD 0 0=x:=rfl;have e1:([x,y]:List Int).getD 1 0=y:=rfl;rw [e0,e1]
    rcases hop with rfl | rfl
    · exact zir x y n h hs hc hk hg
    · exact zio x y n h hs hc hk hg hz
end Go.Proofs.YtcikenlflcofbaaGreatDoor
namespace Go.Proofs.YtcikenlflcofbaaGreatDoor
theorem zhl {p:Pg} {v:Vs} {c:Ins} {e:Int} (h:zby p v c = .error e):e≠0:=by
  unfold zby at h
  split at h
  · cases h;decide
  split at h
  · cases h;decide
  split at h
  · cases h;decide
  split at h
  · cases h;decide
  split at h
  · split at h
    · cases h;decide
    · cases h
  · split at h
    · cases h;decide
    · cases h
theorem zfg {p:Pg}:∀ {l:List Ins} {i a b:Int} {v:Vs} {most:Int},runG p l i v most=(a,b,0)→runG p l i v most=(0,b,0)
  | [],i,a,b,v,most,h=>by
    rw [zdV] at h ⊢
    split at h
    · cases h
    split at h
    · cases h
    rename_i h1 h2;rw [if_neg h1,if_neg h2]
    cases h
    rfl
  | c::l,i,a,b,v,most,h=>by
    rw [zdg] at h ⊢
    cases hs:zby p v c with
    | error e =>
      rw [hs] at h;injection h with _ h
      injection h with _ h
      exact absurd h (zhl hs)
    | ok v' =>
      rw [hs] at h;exact zfg h
theorem zfe {p:Pg} {c:Ins} {l:List Ins} {i:Int} {v:Vs} {most m:Int} (h:runG p (c::l) i v most=(0,m,0)):∃ v',zby p v c = .ok v'∧runG p l (i+1) v' (max most v'.st.length)=(0,m,0):=by
  rw [zdg] at h
  cases hs:zby p v c with
  | error e =>
    rw [hs] at h;injection h with _ h
    injection h with _ h
    exact absurd h (zhl hs)
  | ok v' =>
    rw [hs] at h;exact ⟨v',rfl,h⟩
theorem zkB {p:Pg} {v v':Vs} {c:Ins} (h:zby p v c = .ok v') (h24:v.st.length≤24):v'.st.length≤24:=by
  obtain ⟨-,-,-,k,-,hv⟩:=zdk h
  rcases hv with ⟨-,-,rfl⟩ | ⟨-,h1,rfl⟩
  · simp only [List.length_take];omega
  · simp only [List.length_append,List.length_take,List.length_singleton];unfold zbp at h1 ⊢;omega
theorem ex_lit (p:Pg) (inp:List Int) (s:Xs) {c:Ins} (h:c.op=1∨c.op=2):exP p inp s c=⟨s.st++[c.a],s.vals,s.cells⟩:=by unfold exP;rw [if_pos h]
theorem ex_inp (p:Pg) (inp:List Int) (s:Xs) {c:Ins} (h:c.op=30):exP p inp s c=⟨s.st++[limP (inp.getD c.a.toNat 0)],s.vals,s.cells⟩:=by unfold exP;rw [if_neg (by omega),if_pos h]
theorem ex_rul (p:Pg) (inp:List Int) (s:Xs) {c:Ins} (h:c.op=31):exP p inp s c=⟨s.st++[s.vals.getD c.a.toNat 0],s.vals,s.cells⟩:=by unfold exP;rw [if_neg (by omega),if_neg (by omega),if_pos h]
theorem ex_sto (p:Pg) (inp:List Int) (s:Xs) {c:Ins} (h:c.op=32):exP p inp s c=⟨zbG s c,s.vals.set c.a.toNat ((zbc s c).getD 0 0),s.cells⟩:=by unfold exP;rw [if_neg (by omega),if_neg (by omega),if_neg (by omega),if_pos h]
theorem zc2 {op:Int}:zaG op=true↔17≤op∧op≤22:=by unfold zaG;simp
theorem ex_cel (p:Pg) (inp:List Int) (s:Xs) {c:Ins} (h:17≤c.op∧c.op≤22) {u:Nat} {l:Cl} {t:Cs} (ha:c.a=(u:Int)) (hl:p.cells[u]? = some l) (ht:s.cells[u]? = some t) :
    exP p inp s c=⟨zbG s c++[(zbq c.op l.n t (decide ((zbc s c).getD 0 0=1)) (decide ((zbc s c).getD 1 0=1))).1],s.vals,s.cells.set u (zbq c.op l.n t (decide ((zbc s c).getD 0 0=1)) (decide ((zbc s c).getD 1 0=1))).2⟩:=by
  have e1:p.cells.getD c.a.toNat ⟨0,0⟩=l:=by rw [List.getD_eq_getElem?_getD,ha,Int.toNat_natCast,hl];rfl
  have e2:s.cells.getD c.a.toNat ⟨false,0⟩=t:=by rw [List.getD_eq_getElem?_getD,ha,Int.toNat_natCast,ht];rfl
  unfold exP;rw [if_neg (by omega),if_neg (by omega),if_neg (by omega),if_neg (by omega),if_pos (zc2.2 h),e1,e2,ha,Int.toNat_natCast]
theorem ex_pla (p:Pg) (inp:List Int) (s:Xs) {c:Ins} (h:4≤c.op∧c.op≤16):exP p inp s c=⟨zbG s c++[zau c.op (zbc s c)],s.vals,s.cells⟩:=by
  have hk:zaG c.op=false:=by unfold zaG;simp;omega
  unfold exP;rw [if_neg (by omega),if_neg (by omega),if_neg (by omega),if_neg (by omega),hk,if_neg (by decide)]
theorem zka {op:Int} (h:0≤opnP op):(op=1∨op=2)∨op=30∨op=31∨op=32∨(17≤op∧op≤22)∨(4≤op∧op≤16):=by
  have:¬ (opnP op = -1):=by omega
  unfold opnP at this
  by_cases hb:5≤op∧op≤22
  · omega
  · rw [if_neg (c:=5≤op∧op≤22) hb] at this
    split at this
    · omega
    · split at this
      · omega
      · split at this
        · omega
        · exact absurd rfl this
theorem zki {p:Pg} {v v':Vs} {s:Xs} {c:Ins} (h:zby p v c = .ok v') (hs:StOk p v s) (_h4:4≤c.op∧c.op≤16):opnP c.op=(zbc s c).length∧(∀ x∈zbc s c,-1000000000≤x∧x≤1000000000)∧(c.op=5∨c.op=6∨c.op=7→∀ x∈zbc s c,x=0∨x=1):=by
  have hI:=ziI h hs;obtain ⟨-,-,-,k,hk,-⟩:=zdk h
  have hmem:∀ x∈zbc s c,∃ kd,kd∈v.st.drop (zbp v c)∧okV kd x:=by
    intro x hx;obtain ⟨j,hj⟩:=List.getElem?_of_mem hx;have hjl:=(List.getElem?_eq_some_iff.1 hj).1;rw [hI.args.1] at hjl;exact ⟨_,List.getElem_mem hjl,hI.args.2 j _ x (List.getElem?_eq_getElem hjl) hj⟩
  refine ⟨by rw [hI.alen];have:=hI.opn;omega,fun x hx => ?_,fun q x hx => ?_⟩
  · obtain ⟨kd,-,ho⟩:=hmem x hx
    exact ho.2
  · obtain ⟨kd,hkd,ho⟩:=hmem x hx
    unfold kndP at hk
    rw [if_neg (by omega)] at hk
    split at hk
    · rename_i hall
      have:=List.all_eq_true.1 hall kd hkd
      have hs1:(sigP c.op).1=1:=by rcases q with q | q | q <;> rw [q] <;> decide
      simp only [hs1,decide_eq_true_eq] at this
      exact ho.1 this
    · cases hk
end Go.Proofs.YtcikenlflcofbaaGreatDoor
