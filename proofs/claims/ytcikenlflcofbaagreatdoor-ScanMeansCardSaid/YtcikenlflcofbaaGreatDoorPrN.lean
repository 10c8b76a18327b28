/-
  The level primary.
-/
import Derived.Test.YtcikenlflcofbaaGreatDoorCall
import Derived.Lib.AtoiAll
import Derived.Lib.AtoiErrMem
set_option maxRecDepth 100000
set_option maxHeartbeats 8000000
namespace Go.Proofs.YtcikenlflcofbaaGreatDoor
open Go.RowKit
attribute [local go_sem] zbZ
theorem zdU {pb:Nat} {A:Option Addr} {c:Nat} {L:List Tok} {w w1:World} (op n:Int) (nm:List UInt8) (h3:ExP op n nm) {j:Nat} {la:Int} (hl:Left pb A c L j la w w1) (hj:j<L.length) (hp:pb<w.heap.size) (o:Obj) :
    RetEx pb A c L (.mk op n nm []) j la w (.returned (exV op n nm Option.none 0 0)) ((set4 w1 w.heap.size (.int .i64 op) (.int .i64 n) (.string ⟨nm.toArray⟩) (.slice Option.none 0 0)).alloc o):=
  ⟨op,n,nm,Option.none,0,[],rfl,rfl,Nat.le_refl _,Nat.zero_le _,h3,Rw.nil,(hl.put (Nat.le_refl _) (by omega) _ _ _ _).alloc _,hj⟩
theorem zjf {pb:Nat} {A:Option Addr} {c:Nat} {L:List Tok} {i:Nat} {late:Int} {w:World} {tkd tp tn:Int} (hs:PS pb A c L i late w) (ht:tk L i=⟨tkd,[116,114,117,101],tp,tn⟩):Calls Tryz.prog 130 #[.pointer (some ⟨pb,0,none⟩)] w (RetEx pb A c L (.mk 1 1 [] []) (zaA L i) late w):=by
  have hb1:=zaa w (Obj.cells #[.int .i64 0,.int .i64 0,.string ⟨#[]⟩,.slice Option.none 0 0] 48);have hZ:=ZB.new w;have hpl:=hs.ltp;have hps:=hs.below hb1;have hlt:=hs.take_lt;have hfit:=hs.fit i;have C1:=zbb hps;unfold zbm at C1;rw [ht] at C1 hfit;have HC1:=Hi C1;have HPS:=Hi hps;have HZ:=Hi hZ;have HFIT:=Hi hfit;clear C1 hps hZ hs hfit ht;go_enter Tryz.func130,Tryz.ntmps130;go_wp2_with fail
  refine HC1.out.mono ?_
  rintro e' w1 ⟨rfl,hl1⟩
  unfold tokV;have hs1:=hl1.1.size;simp only [World.size_alloc] at hs1;have Z1:=HZ.out.left hl1 (by omega);have HPUT:=Hi (zak Z1 1 1 [] Option.none 0 0);obtain ⟨q0,q1,q2,q3,z0,z1,z2,z3⟩:=XV.cells Z1;have HL1:=Hi (Left.pre hb1 hl1);have hzl:=XV.lt Z1;clear hl1 Z1 HC1 HPS HZ;go_wp2;have hE:=zdU (w:=w) 1 1 [] ⟨by decide,by decide,by simp⟩ HL1.out hlt hpl (Obj.cells #[.int .i64 tkd,.string ⟨#[116,114,117,101]⟩,.int .i64 tp,.int .i64 tn] 136)
  change bodyPost _ _ _ _ _ ((set4 w1 w.heap.size (.int .i64 1) (.int .i64 1) (.string ⟨#[]⟩) (.slice Option.none 0 0)).alloc _)
  obtain ⟨r0,r1,r2,r3,-,-,-,-⟩:=HPUT.out.cells;have hsz4:=zaz w1 w.heap.size (.int .i64 1) (.int .i64 1) (.string ⟨#[]⟩) (.slice Option.none 0 0);have hlt4:w.heap.size<(set4 w1 w.heap.size (.int .i64 1) (.int .i64 1) (.string ⟨#[]⟩) (.slice Option.none 0 0)).heap.size:=by omega
  refine bodyPost_ret (v:=exV 1 1 [] Option.none 0 0) ?_ rfl hE
  generalize set4 w1 w.heap.size (.int .i64 1) (.int .i64 1) (.string ⟨#[]⟩) (.slice Option.none 0 0)=V at *;simp [results,Tryz.results130,go_sem,exV,r0,r1,r2,r3,hlt4]
theorem zhR {pb:Nat} {A:Option Addr} {c:Nat} {L:List Tok} {i:Nat} {late:Int} {w:World} {tkd tp tn:Int} (hs:PS pb A c L i late w) (ht:tk L i=⟨tkd,[102,97,108,115,101],tp,tn⟩):Calls Tryz.prog 130 #[.pointer (some ⟨pb,0,none⟩)] w (RetEx pb A c L (.mk 1 0 [] []) (zaA L i) late w):=by
  have hb1:=zaa w (Obj.cells #[.int .i64 0,.int .i64 0,.string ⟨#[]⟩,.slice Option.none 0 0] 48);have hZ:=ZB.new w;have hpl:=hs.ltp;have hps:=hs.below hb1;have hlt:=hs.take_lt;have hfit:=hs.fit i;have C1:=zbb hps;unfold zbm at C1;rw [ht] at C1 hfit;have HC1:=Hi C1;have HPS:=Hi hps;have HZ:=Hi hZ;have HFIT:=Hi hfit;clear C1 hps hZ hs hfit ht;go_enter Tryz.func130,Tryz.ntmps130;go_wp2_with fail
  refine HC1.out.mono ?_
  rintro e' w1 ⟨rfl,hl1⟩
  unfold tokV;have hs1:=hl1.1.size;simp only [World.size_alloc] at hs1;have Z1:=HZ.out.left hl1 (by omega);have HPUT:=Hi (zak Z1 1 0 [] Option.none 0 0);obtain ⟨q0,q1,q2,q3,z0,z1,z2,z3⟩:=XV.cells Z1;have HL1:=Hi (Left.pre hb1 hl1);have hzl:=XV.lt Z1;clear hl1 Z1 HC1 HPS HZ;go_wp2;have hE:=zdU (w:=w) 1 0 [] ⟨by decide,by decide,by simp⟩ HL1.out hlt hpl (Obj.cells #[.int .i64 tkd,.string ⟨#[102,97,108,115,101]⟩,.int .i64 tp,.int .i64 tn] 136)
  change bodyPost _ _ _ _ _ ((set4 w1 w.heap.size (.int .i64 1) (.int .i64 0) (.string ⟨#[]⟩) (.slice Option.none 0 0)).alloc _)
  obtain ⟨r0,r1,r2,r3,-,-,-,-⟩:=HPUT.out.cells;have hsz4:=zaz w1 w.heap.size (.int .i64 1) (.int .i64 0) (.string ⟨#[]⟩) (.slice Option.none 0 0);have hlt4:w.heap.size<(set4 w1 w.heap.size (.int .i64 1) (.int .i64 0) (.string ⟨#[]⟩) (.slice Option.none 0 0)).heap.size:=by omega
  refine bodyPost_ret (v:=exV 1 0 [] Option.none 0 0) ?_ rfl hE
  generalize set4 w1 w.heap.size (.int .i64 1) (.int .i64 0) (.string ⟨#[]⟩) (.slice Option.none 0 0)=V at *;simp [results,Tryz.results130,go_sem,exV,r0,r1,r2,r3,hlt4]
theorem zkj {pb:Nat} {A:Option Addr} {c:Nat} {L:List Tok} {i:Nat} {late:Int} {w:World} {tkd tp tn:Int} {ts:List UInt8} (hs:PS pb A c L i late w) (ht:tk L i=⟨tkd,ts,tp,tn⟩) (q1:(ts == [40])=false) (q2:(ts == [116, 114, 117, 101])=false) (q3:(ts == [102, 97, 108, 115, 101])=false)
    (c_min:(ts == [109, 105, 110])=false) (c_max:(ts == [109, 97, 120])=false) (c_abs:(ts == [97, 98, 115])=false) (c_if:(ts == [105, 102])=false) (c_rise:(ts == [114, 105, 115, 101])=false) (c_fall:(ts == [102, 97, 108, 108])=false) (c_delay:(ts == [100, 101, 108, 97, 121])=false) (c_hold:(ts == [104, 111, 108, 100])=false) (c_latch:(ts == [108, 97, 116, 99, 104])=false) (c_count:(ts == [99, 111, 117, 110, 116])=false) (hk:(tkd == 2)=true):Calls Tryz.prog 130 #[.pointer (some ⟨pb,0,none⟩)] w (RetEx pb A c L (.mk 2 tn [] []) (zaA L i) late w):=by
  have hb1:=zaa w (Obj.cells #[.int .i64 0,.int .i64 0,.string ⟨#[]⟩,.slice Option.none 0 0] 48);have hZ:=ZB.new w;have hpl:=hs.ltp;have hps:=hs.below hb1;have hlt:=hs.take_lt;have hfit:=hs.fit i;have C1:=zbb hps;unfold zbm at C1;rw [ht] at C1 hfit;have HC1:=Hi C1;have HPS:=Hi hps;have HZ:=Hi hZ;have HFIT:=Hi hfit;clear C1 hps hZ hs hfit ht;go_enter Tryz.func130,Tryz.ntmps130;go_wp2_with fail
  refine HC1.out.mono ?_
  rintro e' w1 ⟨rfl,hl1⟩
  unfold tokV;have hs1:=hl1.1.size;simp only [World.size_alloc] at hs1;have Z1:=HZ.out.left hl1 (by omega);have HPUT:=Hi (zak Z1 2 tn [] Option.none 0 0);obtain ⟨q0,q1,q2,q3,z0,z1,z2,z3⟩:=XV.cells Z1;have HL1:=Hi (Left.pre hb1 hl1);have hzl:=XV.lt Z1;clear hl1 Z1 HC1 HPS HZ;go_wp2;have hE:=zdU (w:=w) 2 tn [] ⟨by decide,HFIT.out.1,by simp⟩ HL1.out hlt hpl (Obj.cells #[.int .i64 tkd,.string ⟨ts.toArray⟩,.int .i64 tp,.int .i64 tn] 136)
  change bodyPost _ _ _ _ _ ((set4 w1 w.heap.size (.int .i64 2) (.int .i64 tn) (.string ⟨#[]⟩) (.slice Option.none 0 0)).alloc _)
  obtain ⟨r0,r1,r2,r3,-,-,-,-⟩:=HPUT.out.cells;have hsz4:=zaz w1 w.heap.size (.int .i64 2) (.int .i64 tn) (.string ⟨#[]⟩) (.slice Option.none 0 0);have hlt4:w.heap.size<(set4 w1 w.heap.size (.int .i64 2) (.int .i64 tn) (.string ⟨#[]⟩) (.slice Option.none 0 0)).heap.size:=by omega
  refine bodyPost_ret (v:=exV 2 tn [] Option.none 0 0) ?_ rfl hE
  generalize set4 w1 w.heap.size (.int .i64 2) (.int .i64 tn) (.string ⟨#[]⟩) (.slice Option.none 0 0)=V at *;simp [results,Tryz.results130,go_sem,exV,r0,r1,r2,r3,hlt4]
theorem zjc {pb:Nat} {A:Option Addr} {c:Nat} {L:List Tok} {i:Nat} {late:Int} {w:World} {tkd tp tn:Int} {ts:List UInt8} (hs:PS pb A c L i late w) (ht:tk L i=⟨tkd,ts,tp,tn⟩) (q1:(ts == [40])=false) (q2:(ts == [116, 114, 117, 101])=false) (q3:(ts == [102, 97, 108, 115, 101])=false)
    (c_min:(ts == [109, 105, 110])=false) (c_max:(ts == [109, 97, 120])=false) (c_abs:(ts == [97, 98, 115])=false) (c_if:(ts == [105, 102])=false) (c_rise:(ts == [114, 105, 115, 101])=false) (c_fall:(ts == [102, 97, 108, 108])=false) (c_delay:(ts == [100, 101, 108, 97, 121])=false) (c_hold:(ts == [104, 111, 108, 100])=false) (c_latch:(ts == [108, 97, 116, 99, 104])=false) (c_count:(ts == [99, 111, 117, 110, 116])=false) (hk:(tkd == 2)=false) (hk1:(tkd == 1)=true) (hr:zaC ts=false):Calls Tryz.prog 130 #[.pointer (some ⟨pb,0,none⟩)] w (RetEx pb A c L (.mk 3 0 ts []) (zaA L i) late w):=by
  have C7:=fun W=>zcA ts W
  rw [hr] at C7;have HC7:=Hi C7;clear C7 hr;have hb1:=zaa w (Obj.cells #[.int .i64 0,.int .i64 0,.string ⟨#[]⟩,.slice Option.none 0 0] 48);have hZ:=ZB.new w;have hpl:=hs.ltp;have hps:=hs.below hb1;have hlt:=hs.take_lt;have hfit:=hs.fit i;have C1:=zbb hps;unfold zbm at C1;rw [ht] at C1 hfit;have HC1:=Hi C1;have HPS:=Hi hps;have HZ:=Hi hZ;have HFIT:=Hi hfit;clear C1 hps hZ hs hfit ht;go_enter Tryz.func130,Tryz.ntmps130;go_wp2_with fail
  refine HC1.out.mono ?_
  rintro e' w1 ⟨rfl,hl1⟩
  unfold tokV;have hs1:=hl1.1.size;simp only [World.size_alloc] at hs1;have Z1:=HZ.out.left hl1 (by omega);have HPUT:=Hi (zak Z1 3 0 ts Option.none 0 0);obtain ⟨q0,q1,q2,q3,z0,z1,z2,z3⟩:=XV.cells Z1;have HL1:=Hi (Left.pre hb1 hl1);have hzl:=XV.lt Z1;clear hl1 Z1 HC1 HPS HZ;go_wp2_with fail
  refine (HC7.out _).mono ?_
  rintro e' w9 ⟨rfl,rfl⟩
  go_wp2;have hE:=zdU (w:=w) 3 0 ts ⟨by decide,by decide,HFIT.out.2⟩ HL1.out hlt hpl (Obj.cells #[.int .i64 tkd,.string ⟨ts.toArray⟩,.int .i64 tp,.int .i64 tn] 136)
  change bodyPost _ _ _ _ _ ((set4 w1 w.heap.size (.int .i64 3) (.int .i64 0) (.string ⟨ts.toArray⟩) (.slice Option.none 0 0)).alloc _)
  obtain ⟨r0,r1,r2,r3,-,-,-,-⟩:=HPUT.out.cells;have hsz4:=zaz w1 w.heap.size (.int .i64 3) (.int .i64 0) (.string ⟨ts.toArray⟩) (.slice Option.none 0 0);have hlt4:w.heap.size<(set4 w1 w.heap.size (.int .i64 3) (.int .i64 0) (.string ⟨ts.toArray⟩) (.slice Option.none 0 0)).heap.size:=by omega
  refine bodyPost_ret (v:=exV 3 0 ts Option.none 0 0) ?_ rfl hE
  generalize set4 w1 w.heap.size (.int .i64 3) (.int .i64 0) (.string ⟨ts.toArray⟩) (.slice Option.none 0 0)=V at *;simp [results,Tryz.results130,go_sem,exV,r0,r1,r2,r3,hlt4]
theorem zje {pb:Nat} {A:Option Addr} {c:Nat} {L:List Tok} {i:Nat} {late:Int} {w:World} {tkd tp tn:Int} {ts:List UInt8} (hs:PS pb A c L i late w) (ht:tk L i=⟨tkd,ts,tp,tn⟩) (q1:(ts == [40])=false) (q2:(ts == [116, 114, 117, 101])=false) (q3:(ts == [102, 97, 108, 115, 101])=false)
    (c_min:(ts == [109, 105, 110])=false) (c_max:(ts == [109, 97, 120])=false) (c_abs:(ts == [97, 98, 115])=false) (c_if:(ts == [105, 102])=false) (c_rise:(ts == [114, 105, 115, 101])=false) (c_fall:(ts == [102, 97, 108, 108])=false) (c_delay:(ts == [100, 101, 108, 97, 121])=false) (c_hold:(ts == [104, 111, 108, 100])=false) (c_latch:(ts == [108, 97, 116, 99, 104])=false) (c_count:(ts == [99, 111, 117, 110, 116])=false) (hk:(tkd == 2)=false) (hk1:(tkd == 1)=false):Calls Tryz.prog 130 #[.pointer (some ⟨pb,0,none⟩)] w (RetStop pb tp 6 w):=by
  have hb1:=zaa w (Obj.cells #[.int .i64 0,.int .i64 0,.string ⟨#[]⟩,.slice Option.none 0 0] 48);have hZ:=ZB.new w;have hpl:=hs.ltp;have hps:=hs.below hb1;have hlt:=hs.take_lt;have hfit:=hs.fit i;have C1:=zbb hps;unfold zbm at C1;rw [ht] at C1 hfit;have HC1:=Hi C1;have HPS:=Hi hps;have HZ:=Hi hZ;have HFIT:=Hi hfit;clear C1 hps hZ hs hfit ht;go_enter Tryz.func130,Tryz.ntmps130;go_wp2_with fail
  refine HC1.out.mono ?_
  rintro e' w1 ⟨rfl,hl1⟩
  unfold tokV;have hs1:=hl1.1.size;simp only [World.size_alloc] at hs1;have Z1:=HZ.out.left hl1 (by omega);have HL1:=Hi (Left.pre hb1 hl1);clear hl1 Z1 HC1 HPS HZ;go_wp2;refine zai rfl ⟨rfl,zaK HL1.out.1 _⟩
theorem zkk {pb:Nat} {A:Option Addr} {c:Nat} {L:List Tok} {i:Nat} {late:Int} {w:World} {tkd tp tn:Int} {ts:List UInt8} (hs:PS pb A c L i late w) (ht:tk L i=⟨tkd,ts,tp,tn⟩) (q1:(ts == [40])=false) (q2:(ts == [116, 114, 117, 101])=false) (q3:(ts == [102, 97, 108, 115, 101])=false)
    (c_min:(ts == [109, 105, 110])=false) (c_max:(ts == [109, 97, 120])=false) (c_abs:(ts == [97, 98, 115])=false) (c_if:(ts == [105, 102])=false) (c_rise:(ts == [114, 105, 115, 101])=false) (c_fall:(ts == [102, 97, 108, 108])=false) (c_delay:(ts == [100, 101, 108, 97, 121])=false) (c_hold:(ts == [104, 111, 108, 100])=false) (c_latch:(ts == [108, 97, 116, 99, 104])=false) (c_count:(ts == [99, 111, 117, 110, 116])=false) (hk:(tkd == 2)=false) (hk1:(tkd == 1)=true) (hr:zaC ts=true):Calls Tryz.prog 130 #[.pointer (some ⟨pb,0,none⟩)] w (RetStop pb tp 6 w):=by
  have C7:=fun W=>zcA ts W
  rw [hr] at C7;have HC7:=Hi C7;clear C7 hr;have hb1:=zaa w (Obj.cells #[.int .i64 0,.int .i64 0,.string ⟨#[]⟩,.slice Option.none 0 0] 48);have hZ:=ZB.new w;have hpl:=hs.ltp;have hps:=hs.below hb1;have hlt:=hs.take_lt;have hfit:=hs.fit i;have C1:=zbb hps;unfold zbm at C1;rw [ht] at C1 hfit;have HC1:=Hi C1;have HPS:=Hi hps;have HZ:=Hi hZ;have HFIT:=Hi hfit;clear C1 hps hZ hs hfit ht;go_enter Tryz.func130,Tryz.ntmps130;go_wp2_with fail
  refine HC1.out.mono ?_
  rintro e' w1 ⟨rfl,hl1⟩
  unfold tokV;have hs1:=hl1.1.size;simp only [World.size_alloc] at hs1;have Z1:=HZ.out.left hl1 (by omega);have HL1:=Hi (Left.pre hb1 hl1);clear hl1 Z1 HC1 HPS HZ;go_wp2_with fail
  refine (HC7.out _).mono ?_
  rintro e' w9 ⟨rfl,rfl⟩
  go_wp2;refine zai rfl ⟨rfl,zaK HL1.out.1 _⟩
theorem zjb {pb:Nat} {A:Option Addr} {c:Nat} {L:List Tok} {i:Nat} {late:Int} {w:World} {e:Nat→Int→Res Ex} {tkd tp tn:Int} {ts:List UInt8} (hC:PartC pb A c L e) (r:Except (Int × Int) (Ex × Nat × Int)) (hs:PS pb A c L i late w) (ht:tk L i=⟨tkd,ts,tp,tn⟩) (hm:ts∈za2) (hr:zed L e (zal ts) (zaA L i) late=some r) :
    Calls Tryz.prog 130 #[.pointer (some ⟨pb,0,none⟩)] w (RetP pb A c L r w):=by
  have hrange:13≤zal ts∧zal ts≤22:=by
    simp only [za2,List.mem_cons,List.not_mem_nil,or_false] at hm
    rcases hm with rfl | rfl | rfl | rfl | rfl | rfl | rfl | rfl | rfl | rfl
    all_goals decide
  have C2:=fun W=>zca ts W
  obtain ⟨opn,hopn⟩:∃ o,zal ts=o:=⟨_,rfl⟩;rw [hopn] at C2 hrange hr;have HC2:=Hi C2;have HCP:=Hi hC;have HR:=Hi hr;clear C2 hopn hC hr;simp only [za2,List.mem_cons,List.not_mem_nil,or_false] at hm
  rcases hm with rfl | rfl | rfl | rfl | rfl | rfl | rfl | rfl | rfl | rfl
  all_goals
    have hb1:=zaa w (Obj.cells #[.int .i64 0,.int .i64 0,.string ⟨#[]⟩,.slice Option.none 0 0] 48);have hZ:=ZB.new w;have hpl:=hs.ltp;have hps:=hs.below hb1;have hlt:=hs.take_lt;have hfit:=hs.fit i;have C1:=zbb hps;unfold zbm at C1;rw [ht] at C1 hfit;have HC1:=Hi C1;have HPS:=Hi hps;have HZ:=Hi hZ;have HFIT:=Hi hfit;clear C1 hps hZ hs hfit ht;go_enter Tryz.func130,Tryz.ntmps130;go_wp2_with fail
    refine HC1.out.mono ?_
    rintro e' w1 ⟨rfl,hl1⟩
    unfold tokV;have hs1:=hl1.1.size;simp only [World.size_alloc] at hs1;have Z1:=HZ.out.left hl1 (by omega);go_wp2_with fail
    refine (HC2.out _).mono ?_
    rintro e' w4 ⟨rfl,hb4⟩
    have hs4:=hb4.size;simp only [World.size_alloc] at hs4;have HL4:=Hi (((Left.pre hb1 hl1).alloc _).below hb4);have HP4:=Hi (((HPS.out.left hl1 hlt).below (zaa w1 _)).below hb4);have HZ4:=Hi ((Z1.below (zaa w1 _)).below hb4);clear hl1 Z1 HC1 HPS HZ hb4;go_wp2_with fail
    rcases r with ⟨a,er⟩ | ⟨x,j,la⟩
    · refine (HCP.out _ _ _ _ _ hrange.1 hrange.2 HP4.out HR.out).mono ?_
      rintro e' w5 ⟨rfl,hg⟩
      exact zai rfl ⟨rfl,HL4.out.1.trans hg⟩
    refine (HCP.out _ _ _ _ _ hrange.1 hrange.2 HP4.out HR.out).mono ?_
    rintro e' w5 ⟨op,n,nm,A1,c1,ks,rfl,rfl,hc1,hm1,hp1,hr1,hl5,hj⟩
    unfold exV;have hs5:=hl5.1.size;have Z5:=HZ4.out.left hl5 (by omega);have HL5:=Hi (HL4.out.trans hl5);obtain ⟨q0,q1,q2,q3,z0,z1,z2,z3⟩:=XV.cells Z5;have HR1:=Hi hr1;have HPUT:=Hi (zak Z5 op n nm A1 ks.length c1);clear hr1 hl5 Z5 HL4 HP4 HZ4;go_wp2
    change bodyPost _ _ _ _ _ (set4 w5 w.heap.size (.int .i64 op) (.int .i64 n) (.string ⟨nm.toArray⟩) (.slice A1 ks.length c1))
    obtain ⟨r0,r1,r2,r3,-,-,-,-⟩:=HPUT.out.cells;refine bodyPost_ret (v:=exV op n nm A1 ks.length c1) (by simp [results,Tryz.results130,go_sem,exV,r0,r1,r2,r3]) rfl ?_
    refine RetEx.put hc1 hm1 hp1 HR1.out (fun b hb => ?_) HL5.out hj hpl
    have h1:=hb.1;exact ⟨by omega,hb.2⟩
theorem zlE {pb:Nat} {A:Option Addr} {c:Nat} {L:List Tok} {i:Nat} {late:Int} {w:World} {e:Nat→Int→Res Ex} {tkd tp tn:Int} (hP:Part pb A c L 77 e) (r:Except (Int × Int) (Ex × Nat × Int)) (hs:PS pb A c L i late w) (ht:tk L i=⟨tkd,[40],tp,tn⟩)
    (hr:((e (zaA L i) late).go fun x j la=>zbd L [41] j fun k=>some (.ok (x,k,la)))=some r):Calls Tryz.prog 130 #[.pointer (some ⟨pb,0,none⟩)] w (RetP pb A c L r w):=by
  have HPA:=Hi hP;have HR:=Hi hr;clear hP hr;have hb1:=zaa w (Obj.cells #[.int .i64 0,.int .i64 0,.string ⟨#[]⟩,.slice Option.none 0 0] 48);have hZ:=ZB.new w;have hpl:=hs.ltp;have hps:=hs.below hb1;have hlt:=hs.take_lt;have hfit:=hs.fit i;have C1:=zbb hps;unfold zbm at C1;rw [ht] at C1 hfit;have HC1:=Hi C1;have HPS:=Hi hps;have HZ:=Hi hZ;have HFIT:=Hi hfit;clear C1 hps hZ hs hfit ht;go_enter Tryz.func130,Tryz.ntmps130;go_wp2_with fail
  refine HC1.out.mono ?_
  rintro e' w1 ⟨rfl,hl1⟩
  unfold tokV;have hs1:=hl1.1.size;simp only [World.size_alloc] at hs1;have Z1:=HZ.out.left hl1 (by omega);have hbT:=zaa w1 (Obj.cells #[.int .i64 tkd,.string ⟨#[40]⟩,.int .i64 tp,.int .i64 tn] 136);have HL4:=Hi ((Left.pre hb1 hl1).alloc (Obj.cells #[.int .i64 tkd,.string ⟨#[40]⟩,.int .i64 tp,.int .i64 tn] 136));have HP4:=Hi ((HPS.out.left hl1 hlt).below hbT);have HZ4:=Hi (Z1.below hbT);clear hl1 Z1 HC1 HPS HZ hbT;go_wp2_with fail
  rcases Res.go_some HR.out with ⟨a,er,h1,rfl⟩ | ⟨x,j,la,h1,h2⟩
  · refine (HPA.out _ _ _ _ HP4.out h1).mono ?_
    rintro e' w5 ⟨rfl,hg⟩
    exact zai rfl ⟨rfl,HL4.out.1.trans hg⟩
  have H2:=Hi h2;clear h2 HR;refine (HPA.out _ _ _ _ HP4.out h1).mono ?_
  rintro e' w5 ⟨op,n,nm,A1,c1,ks,rfl,rfl,hc1,hm1,hp1,hr1,hl5,hj⟩
  unfold exV;have hs5:=hl5.1.size;simp only [World.size_alloc] at hs5;have hbX:=zaa w5 (Obj.cells #[.int .i64 op,.int .i64 n,.string ⟨nm.toArray⟩,.slice A1 ks.length c1] 48);have HX6:=Hi (XV.new w5 op n nm A1 ks.length c1);have HZ6:=Hi ((HZ4.out.left hl5 (by omega)).below hbX);have HL6:=Hi ((HL4.out.trans hl5).alloc (Obj.cells #[.int .i64 op,.int .i64 n,.string ⟨nm.toArray⟩,.slice A1 ks.length c1] 48));have hps6:=(HP4.out.left hl5 hj).below hbX;have HR6:=Hi (hr1.mono (S':=fun b=>w.heap.size+1≤b∧b<w5.heap.size) ExV.mono (fun b hb=>⟨by have:=hb.1;simp only [World.size_alloc] at this;omega,hb.2⟩) (zab hbX fun b hb=>hb.2));have h2:=H2.out;unfold zbd at h2;clear hr1 hl5 HL4 HP4 HZ4 H2 h1
  by_cases hq:isT L j [41] = true
  case neg =>
    rw [if_neg hq] at h2;obtain rfl:Except.error ((tk L j).pos,6)=r:=by injection h2
    have HC5:=Hi (zcv [41] hps6 (by simpa using hq))
    clear h2 hq hps6 hbX;go_wp2_with fail
    refine HC5.out.mono ?_
    rintro e' w7 ⟨rfl,hg⟩
    exact zai rfl ⟨rfl,HL6.out.1.trans hg⟩
  rw [if_pos hq] at h2;obtain rfl:Except.ok (Ex.mk op n nm ks,zaA L j,la)=r:=by injection h2
  have HC5:=Hi (zcw [41] hps6 hq)
  have hlt7:=hps6.take_lt;clear h2 hq hps6 hbX;go_wp2_with fail
  refine HC5.out.mono ?_
  rintro e' w7 ⟨rfl,hl7⟩
  have hs7:=hl7.1.size;simp only [World.size_alloc] at hs7;have Z7:=HZ6.out.left hl7 (by omega);have X7:=HX6.out.grown hl7.1 (by intro h;injection h;omega);have HL7:=Hi (HL6.out.trans hl7);have HR7:=Hi (HR6.out.mono ExV.mono (fun b hb=>hb) (zah hl7.1 fun b hb=>⟨by simp only [World.size_alloc];omega,fun q=>by injection q;omega⟩));obtain ⟨q0,q1,q2,q3,z0,z1,z2,z3⟩:=XV.cells Z7;obtain ⟨x0,x1,x2,x3,-,-,-,-⟩:=X7.cells;have HPUT:=Hi (zak Z7 op n nm A1 ks.length c1);clear hl7 Z7 X7 HX6 HZ6 HL6 HR6;go_wp2
  change bodyPost _ _ _ _ _ (set4 w7 w.heap.size (.int .i64 op) (.int .i64 n) (.string ⟨nm.toArray⟩) (.slice A1 ks.length c1))
  obtain ⟨r0,r1,r2,r3,-,-,-,-⟩:=HPUT.out.cells;refine bodyPost_ret (v:=exV op n nm A1 ks.length c1) (by simp [results,Tryz.results130,go_sem,exV,r0,r1,r2,r3]) rfl ?_
  exact RetEx.put hc1 hm1 hp1 HR7.out (fun b hb=>by omega) HL7.out hlt7 hpl
theorem zim {s:List UInt8} (h:¬ za2.contains s=true):(s == [109, 105, 110])=false∧(s == [109, 97, 120])=false∧(s == [97, 98, 115])=false∧(s == [105, 102])=false∧(s == [114, 105, 115, 101])=false∧(s == [102, 97, 108, 108])=false∧(s == [100, 101, 108, 97, 121])=false∧(s == [104, 111, 108, 100])=false∧(s == [108, 97, 116, 99, 104])=false∧(s == [99, 111, 117, 110, 116])=false:=by
  have h':za2.contains s=false:=by simpa using h
  exact ⟨za1 h' (by decide),za1 h' (by decide),za1 h' (by decide),za1 h' (by decide),za1 h' (by decide),za1 h' (by decide),za1 h' (by decide),za1 h' (by decide),za1 h' (by decide),za1 h' (by decide)⟩
theorem zjd {pb:Nat} {A:Option Addr} {c:Nat} {L:List Tok} {f:Nat} (hP:Part pb A c L 77 (pLev L f .expr)):Part pb A c L 130 (pLev L (f+1) .prim):=by
  intro i late w r hs hr;have hr':zcN L (pLev L f .expr) i late=some r:=hr;unfold zcN isT zgd at hr';obtain ⟨t,hT⟩:∃ t,tk L i=t:=⟨_,rfl⟩;obtain ⟨tkd,ts,tp,tn⟩:=t;rw [hT] at hr';simp only at hr'
  split at hr'
  · rename_i h
    obtain rfl:ts = [40] := eq_of_beq h
    exact zlE hP r hs hT hr'
  rename_i n1
  split at hr'
  · rename_i h
    obtain rfl:ts = [116, 114, 117, 101] := eq_of_beq h
    obtain rfl:Except.ok (Ex.mk 1 1 [] [],zaA L i,late)=r:=by injection hr'
    exact zjf hs hT
  rename_i n2
  split at hr'
  · rename_i h
    obtain rfl:ts = [102, 97, 108, 115, 101] := eq_of_beq h
    obtain rfl:Except.ok (Ex.mk 1 0 [] [],zaA L i,late)=r:=by injection hr'
    exact zhR hs hT
  rename_i n3
  split at hr'
  · rename_i h
    exact zjb (zin hP) r hs hT (List.contains_iff_mem.1 h) hr'
  rename_i n4;obtain ⟨f0,f1,f2,f3,f4,f5,f6,f7,f8,f9⟩:=zim n4;have m1:(ts == [40])=false:=by simpa using n1
  have m2:(ts == [116, 114, 117, 101])=false:=by simpa using n2
  have m3:(ts == [102, 97, 108, 115, 101])=false:=by simpa using n3
  split at hr'
  · rename_i h
    obtain rfl:Except.ok (Ex.mk 2 tn [] [],zaA L i,late)=r:=by injection hr'
    exact zkj hs hT m1 m2 m3 f0 f1 f2 f3 f4 f5 f6 f7 f8 f9 (by simp [h])
  rename_i n5;have m5:(tkd == 2)=false:=by simpa using n5
  split at hr'
  · rename_i h
    obtain rfl:Except.ok (Ex.mk 3 0 ts [],zaA L i,late)=r:=by injection hr'
    exact zjc hs hT m1 m2 m3 f0 f1 f2 f3 f4 f5 f6 f7 f8 f9 m5 (by simp [h.1]) h.2
  rename_i n6;obtain rfl:Except.error (tp,6)=r:=by injection hr'
  by_cases h1:tkd=1
  · have hres:zaC ts=true:=by
      cases hq:zaC ts
      · exact absurd ⟨h1,hq⟩ n6
      · rfl
    exact zkk hs hT m1 m2 m3 f0 f1 f2 f3 f4 f5 f6 f7 f8 f9 m5 (by simp [h1]) hres
  · exact zje hs hT m1 m2 m3 f0 f1 f2 f3 f4 f5 f6 f7 f8 f9 m5 (by simp [h1])
theorem zhP {pb:Nat} {A:Option Addr} {c:Nat} {L:List Tok}:∀ f,Part pb A c L 77 (pLev L f .expr)∧Part pb A c L 94 (pLev L f .xor)∧Part pb A c L 107 (pLev L f .conj)∧Part pb A c L 114 (pLev L f .neg) ∧
    Part pb A c L 121 (pLev L f .rel)∧Part pb A c L 126 (pLev L f .sum)∧Part pb A c L 130 (pLev L f .prim)
  | 0=>⟨(fun _ _ _ _ _ h=>by cases h),(fun _ _ _ _ _ h=>by cases h),(fun _ _ _ _ _ h=>by cases h),(fun _ _ _ _ _ h=>by cases h),(fun _ _ _ _ _ h=>by cases h),(fun _ _ _ _ _ h=>by cases h),(fun _ _ _ _ _ h=>by cases h)⟩
  | f+1=>by
    obtain ⟨h1,h2,h3,h4,h5,h6,h7⟩:=zhP f;exact ⟨ziD h2,zkM h3,zjL h4,zj6 h4 h5,zkn h6,zkD h7,zjd h1⟩
end Go.Proofs.YtcikenlflcofbaaGreatDoor
namespace Go.Proofs.YtcikenlflcofbaaGreatDoor
open Go.RowKit
theorem zlk (l:List UInt8):∀ a,a≤l.foldl (fun a c=>10*a+(c.toNat-48)) a:=by
  induction l with
  | nil=>intro a;exact Nat.le_refl _
  | cons x l ih =>
    intro a;have:=ih (10*a+(x.toNat-48));simp only [List.foldl_cons];omega
theorem zdc:∀ (l:List UInt8) (a:Nat),l.all zaq=true→(Lib.parseUint10 a l = .ok (l.foldl (fun a c=>10*a+(c.toNat-48)) a))∨(Lib.parseUint10 a l = .range∧18446744073709551616≤l.foldl (fun a c=>10*a+(c.toNat-48)) a)
  | [],a,_ => .inl rfl
  | c::r,a,h=>by
    simp only [List.all_cons,Bool.and_eq_true] at h
    have hd:48≤c.toNat∧c.toNat≤57:=by
      have h1:=h.1;rw [zbi] at h1;simpa using h1
    have hg:=zlk r (10*a+(c.toNat-48));simp only [Lib.parseUint10,if_pos hd,List.foldl_cons]
    by_cases h1:1844674407370955162≤a
    · rw [if_pos h1]
      exact .inr ⟨rfl,by omega⟩
    · rw [if_neg h1]
      by_cases h2:18446744073709551616≤a*10+(c.toNat-48)
      · rw [if_pos h2]
        exact .inr ⟨rfl,by omega⟩
      · rw [if_neg h2]
        have:=zdc r (a*10+(c.toNat-48)) h.2
        rw [show 10*a+(c.toNat-48)=a*10+(c.toNat-48) by omega]
        exact this
theorem zd1 {c:UInt8} {r:List UInt8} (h:(c::r).all zaq=true):(Lib.atoiAll (c::r) = .ok (decV (c::r):Int)∧decV (c::r)<9223372036854775808)∨(Lib.atoiAll (c::r) = .range∧32767<decV (c::r)):=by
  have hd:48≤c.toNat∧c.toNat≤57:=by
    simp only [List.all_cons,Bool.and_eq_true] at h;have h1:=h.1;rw [zbi] at h1;simpa using h1
  have hm:Lib.parseMag (c::r)=Lib.parseUint10 0 (c::r):=by unfold Lib.parseMag;rw [if_neg (List.cons_ne_nil _ _)]
  have hp:=zdc (c::r) 0 h;unfold Lib.atoiAll;simp only [];rw [if_neg (show ¬ (c.toNat=43∨c.toNat=45) by omega),hm];have hdv:(c::r).foldl (fun a c=>10*a+(c.toNat-48)) 0=decV (c::r):=rfl;rw [hdv] at hp
  rcases hp with e | ⟨e,hb⟩
  · rw [e]
    simp only []
    by_cases hbig:9223372036854775808≤decV (c::r)
    · rw [if_pos ⟨by omega,hbig⟩]
      exact .inr ⟨rfl,by omega⟩
    · rw [if_neg (fun q=>hbig q.2),if_neg (fun q=>by omega),if_neg (by omega)]
      exact .inl ⟨rfl,by omega⟩
  · rw [e]
    exact .inr ⟨rfl,by omega⟩
structure Lw (w:World):Prop where
  err:∃ ev,w.cell? ⟨2,0,none⟩=some ev∧(ev = .nilIface∨∃ te pe,ev = .iface te pe)
  tab:Lib.TabIs Tryz.prog w "internal/strconv.uint64pow10" .u64 Lib.pow10Tab
  lt:5<w.heap.size
theorem zfG : Tryz.prog.globalNamed "internal/strconv.uint64pow10" = some 3:=by kernel_rfl
theorem Lw.keep {w w':World} (h:Lw w) (hs:w.heap.size≤w'.heap.size) (hk:∀ b,b≤5→w'.heap[b]? = w.heap[b]?):Lw w':=by
  refine ⟨?_,?_,Nat.lt_of_lt_of_le h.lt hs⟩
  · obtain ⟨ev,h1,h2⟩:=h.err
    exact ⟨ev,(World.cell?_of_block (a:=⟨2,0,none⟩) (hk _ (by decide))).trans h1,h2⟩
  · have h1:=h.tab
    unfold Lib.TabIs World.var? at *
    rw [zfG] at *
    simp only [Option.bind_some] at *
    rw [hk _ (by decide)]
    exact h1
theorem Lw.below {w w':World} (h:Lw w) (hb:Below w.heap.size w w'):Lw w':=h.keep hb.size fun b hb'=>hb.block b (by have:=h.lt;omega)
def zla (v u:Value) (w:World) (e:Ending) (w':World):Prop:=e = .returned (.tuple #[v,u])∧Below w.heap.size w w'
def RetBad (w:World) (e:Ending) (w':World):Prop:=∃ n t u,e = .returned (.tuple #[.int .i64 n,.iface t u])∧Below w.heap.size w w'
theorem zik (l:List UInt8) (hl:l.length≤1000) (v:Int) (h:Lib.atoiAll l = .ok v) (w:World):Calls Tryz.prog 102 #[.string ⟨l.toArray⟩] w (zla (.int .i64 v) .nilIface w):=by
  refine (Tryz.strconv_Atoi_ok ⟨l.toArray⟩ (by show l.toArray.size≤_;simp;omega) v (by simpa using h) w).mono ?_
  rintro e w' ⟨rfl,h1⟩
  refine ⟨rfl,?_⟩
  rcases h1 with rfl | ⟨t,rfl⟩
  · exact Below.refl _ _
  · exact Lib.bytesWorld_below _ _ _
theorem zjM (l:List UInt8) (hl:l.length≤1000) (h:Lib.atoiAll l = .range) (w:World) (hw:Lw w):Calls Tryz.prog 102 #[.string ⟨l.toArray⟩] w (RetBad w):=by
  obtain ⟨ev,h1,h2⟩:=hw.err;refine (Tryz.strconv_Atoi_range ⟨l.toArray⟩ (by show l.toArray.size≤_;simp;omega) (by simpa using h) ev w h1 h2).mono ?_
  rintro e w' ⟨N,rfl,-,-,hb⟩
  exact ⟨_,_,_,rfl,hb⟩
def zgP (a er:Int) (w:World) (e:Ending) (w':World):Prop:=e = .panicked (stopV a er)∧Below w.heap.size w w'
theorem ziV (c:UInt8) (r:List UInt8) (pos:Int) (hl:(c::r).length≤1000) (hd:(c::r).all zaq=true) (hb:32767<decV (c::r)∨(1<(c::r).length∧c=48)) (w:World) (hw:Lw w) :
    Calls Tryz.prog 91 #[.string ⟨(c::r).toArray⟩,.int .i64 pos] w (zgP pos 2 w):=by
  rcases zd1 hd with ⟨h1,h2⟩ | ⟨h1,h2⟩
  · have HC:=Hi (zik (c::r) hl _ h1 w)
    have hkb:({ data:=(c::r).toArray }:ByteArray)[0]'(by show 0<(c::r).toArray.size;simp)=c:=rfl
    by_cases hbig:32767<decV (c::r)
    · obtain ⟨v,hv⟩:∃ v:Int,((decV (c::r):Nat):Int)=v:=⟨_,rfl⟩
      have hv1:(32767:Int)<v:=by omega
      rw [hv] at HC
      clear hv h1 h2 hb hd hbig hkb
      generalize hL:c::r=L at *
      clear hL
      go_enter Tryz.func91,Tryz.ntmps91
      go_wp2_with fail
      refine HC.out.mono ?_
      rintro e w1 ⟨rfl,hb1⟩
      go_wp2
      exact zai rfl ⟨rfl,hb1⟩
    · obtain ⟨v,hv⟩:∃ v:Int,((decV (c::r):Nat):Int)=v:=⟨_,rfl⟩
      have hv1:¬ (32767:Int)<v:=by omega
      obtain ⟨hlen,hc⟩:=hb.resolve_left hbig
      subst hc
      rw [hv] at HC
      have hlen':1<r.length+1:=hlen
      clear hv h1 h2 hb hd hbig hlen
      go_enter Tryz.func91,Tryz.ntmps91
      go_wp2_with fail
      refine HC.out.mono ?_
      rintro e w1 ⟨rfl,hb1⟩
      go_wp2
      exact zai rfl ⟨rfl,hb1⟩
  · have HC:=Hi (zjM (c::r) hl h1 w hw)
    clear h1 h2 hb hd hw
    generalize hL:c::r=L at *
    clear hL
    go_enter Tryz.func91,Tryz.ntmps91
    go_wp2_with fail
    refine HC.out.mono ?_
    rintro e w1 ⟨v,t,u,rfl,hb1⟩
    go_wp2
    exact zai rfl ⟨rfl,hb1⟩
theorem ziW (c:UInt8) (r:List UInt8) (pos:Int) (hl:(c::r).length≤1000) (hd:(c::r).all zaq=true) (hb:¬ (32767<decV (c::r)∨(1<(c::r).length∧c=48))) (w:World) :
    Calls Tryz.prog 91 #[.string ⟨(c::r).toArray⟩,.int .i64 pos] w (RetI (decV (c::r)) w):=by
  rcases zd1 hd with ⟨h1,h2⟩ | ⟨h1,h2⟩
  · have HC:=Hi (zik (c::r) hl _ h1 w)
    have hkb:({ data:=(c::r).toArray }:ByteArray)[0]'(by show 0<(c::r).toArray.size;simp)=c:=rfl
    obtain ⟨v,hv⟩:∃ v:Int,((decV (c::r):Nat):Int)=v:=⟨_,rfl⟩
    have hv1:¬ (32767:Int)<v:=by omega
    rw [hv] at HC ⊢
    by_cases hlen:1<r.length+1
    · have hc:(((c.toNat:Nat):Int) == 48)=false:=by
        have:c.toNat≠48:=fun q=>hb (.inr ⟨hlen,UInt8.toNat.inj q⟩)
        simp;omega
      clear hv h1 h2 hb hd
      go_enter Tryz.func91,Tryz.ntmps91
      go_wp2_with fail
      refine HC.out.mono ?_
      rintro e w1 ⟨rfl,hb1⟩
      go_wp2
      go_ret
      exact ⟨rfl,hb1⟩
    · clear hv h1 h2 hb hd
      go_enter Tryz.func91,Tryz.ntmps91
      go_wp2_with fail
      refine HC.out.mono ?_
      rintro e w1 ⟨rfl,hb1⟩
      go_wp2
      go_ret
      exact ⟨rfl,hb1⟩
  · exact absurd (.inl h2) hb
end Go.Proofs.YtcikenlflcofbaaGreatDoor
