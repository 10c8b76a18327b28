/-
  The reference's small functions on values: Limit, bit, Cell, Plain.
-/
import Derived.Test.YtcikenlflcofbaaGreatDoorKStq
import Derived.Deep.RegionLaw
set_option maxRecDepth 100000
set_option maxHeartbeats 8000000
namespace Go.Proofs.YtcikenlflcofbaaGreatDoor
open Go.RowKit
theorem zaV (v:Int) (w:World):Calls Tryz.prog 11 #[.int .i64 v] w (zdI (limP v) w):=by
  have HE:=Hi (show max (-1000000000) (min 1000000000 v)=limP v by unfold limP;rw [Int.min_comm]);go_enter Tryz.func11,Tryz.ntmps11;go_wp2;go_ret
  exact ⟨zbs HE.out,rfl⟩
theorem zaZ (b:Bool) (w:World):Calls Tryz.prog 59 #[.bool b] w (zdI (bitP b) w):=by
  cases b
  all_goals
    go_enter Tryz.func59,Tryz.ntmps59;go_wp2;go_ret
    exact ⟨rfl,rfl⟩
def zgm (r:Int × Cs) (w:World) (e:Ending) (w':World):Prop:=e = .returned (.tuple #[.int .i64 r.1,.agg #[.bool r.2.on,.int .i64 r.2.n]])∧Below w.heap.size w w'
structure ClB (w0:World) (on:Bool) (n:Int) (W:World):Prop where
  b0:W.heap[w0.heap.size]? = some (.cells #[.bool on,.int .i64 n] 83 (0,0))
  b1:W.heap[w0.heap.size+1]? = some (.cells #[.bool false,.int .i64 0] 83 (0,0))
  bel:Below w0.heap.size w0 W
theorem ClB.mk' (w:World) (on:Bool) (n:Int):ClB w on n ((w.alloc (Obj.cells #[.bool on,.int .i64 n] 83)).alloc (Obj.cells #[.bool false,.int .i64 0] 83)):=by
  have h0:=heap_alloc_new w (Obj.cells #[.bool on,.int .i64 n] 83);have h1:=heap_alloc_new (w.alloc (Obj.cells #[.bool on,.int .i64 n] 83)) (Obj.cells #[.bool false,.int .i64 0] 83);simp only [World.size_alloc] at h1;have hb:=zaa w (Obj.cells #[.bool on,.int .i64 n] 83);exact ⟨(Lib.alloc_old _ _ _ (by simp only [World.size_alloc];omega)).trans h0,h1,zac hb (zaa _ _) hb.size⟩
theorem ClB.cells {w0 W:World} {on:Bool} {n:Int} (h:ClB w0 on n W):W.cell? ⟨w0.heap.size,0,none⟩=some (.bool on)∧W.cell? ⟨w0.heap.size,1,none⟩=some (.int .i64 n)∧W.cell? ⟨w0.heap.size+1,0,none⟩=some (.bool false)∧W.cell? ⟨w0.heap.size+1,1,none⟩=some (.int .i64 0) ∧
    W.frozen? ⟨w0.heap.size+1,0,none⟩=false∧W.frozen? ⟨w0.heap.size+1,1,none⟩=false∧w0.heap.size+1<W.heap.size:=by
  have h0:=h.b0;have h1:=h.b1;refine ⟨?_,?_,?_,?_,Lib.frozen_of_heap h1 0,Lib.frozen_of_heap h1 1,(Array.getElem?_eq_some_iff.1 h1).1⟩ <;> simp [World.cell?,h0,h1]
theorem zlF (n:Int) (on:Bool) (cn:Int) (a b:Bool) (w:World) (_hn0:0≤n) (_hn1:n≤100000) (_hc0:0≤cn) (_hc1:cn≤100000) :
    Calls Tryz.prog 33 #[.int .i64 17,.int .i64 n,.agg #[.bool on,.int .i64 cn],.bool a,.bool b] w (zgm (zcL 17 n ⟨on,cn⟩ a b) w):=by
  have HBT:=Hi (fun b W=>zaZ b W)
  cases a <;> cases on
  · have hcb:=ClB.mk' w false cn
    obtain ⟨c0,c1,r0,r1,f0,f1,hl⟩:=hcb.cells
    have hl0:w.heap.size<((w.alloc (Obj.cells #[.bool false,.int .i64 cn] 83)).alloc (Obj.cells #[.bool false,.int .i64 0] 83)).heap.size:=by omega
    obtain ⟨z0,z1,-⟩:=zar hcb.b1 (.bool (false)) (.int .i64 (0))
    have HSET:=Hi (zaE (n:=w.heap.size+1) hcb.bel (by omega) (.bool (false)) (.int .i64 (0)))
    clear hcb
    go_enter Tryz.func33,Tryz.ntmps33
    go_upto_region 1 with fail
    generalize (w.alloc (Obj.cells #[.bool false,.int .i64 cn] 83)).alloc (Obj.cells #[.bool false,.int .i64 0] 83)=W2 at *
    go_wp2_with fail
    refine (HBT.out _ _).mono ?_
    rintro e0 w0 ⟨rfl,rfl⟩
    go_wp2
    refine bodyPost_ret (v := .tuple #[.int .i64 (bitP false),.agg #[.bool (false),.int .i64 (0)]]) ?_ rfl ?_
    · simp [results,Tryz.results33,go_sem,z0,z1]
    · exact ⟨rfl,HSET.out⟩
  · have hcb:=ClB.mk' w true cn
    obtain ⟨c0,c1,r0,r1,f0,f1,hl⟩:=hcb.cells
    have hl0:w.heap.size<((w.alloc (Obj.cells #[.bool true,.int .i64 cn] 83)).alloc (Obj.cells #[.bool false,.int .i64 0] 83)).heap.size:=by omega
    obtain ⟨z0,z1,-⟩:=zar hcb.b1 (.bool (false)) (.int .i64 (0))
    have HSET:=Hi (zaE (n:=w.heap.size+1) hcb.bel (by omega) (.bool (false)) (.int .i64 (0)))
    clear hcb
    go_enter Tryz.func33,Tryz.ntmps33
    go_upto_region 1 with fail
    generalize (w.alloc (Obj.cells #[.bool true,.int .i64 cn] 83)).alloc (Obj.cells #[.bool false,.int .i64 0] 83)=W2 at *
    go_wp2_with fail
    refine (HBT.out _ _).mono ?_
    rintro e0 w0 ⟨rfl,rfl⟩
    go_wp2
    refine bodyPost_ret (v := .tuple #[.int .i64 (bitP false),.agg #[.bool (false),.int .i64 (0)]]) ?_ rfl ?_
    · simp [results,Tryz.results33,go_sem,z0,z1]
    · exact ⟨rfl,HSET.out⟩
  · have hcb:=ClB.mk' w false cn
    obtain ⟨c0,c1,r0,r1,f0,f1,hl⟩:=hcb.cells
    have hl0:w.heap.size<((w.alloc (Obj.cells #[.bool false,.int .i64 cn] 83)).alloc (Obj.cells #[.bool false,.int .i64 0] 83)).heap.size:=by omega
    obtain ⟨z0,z1,-⟩:=zar hcb.b1 (.bool (true)) (.int .i64 (0))
    have HSET:=Hi (zaE (n:=w.heap.size+1) hcb.bel (by omega) (.bool (true)) (.int .i64 (0)))
    clear hcb
    go_enter Tryz.func33,Tryz.ntmps33
    go_upto_region 1 with fail
    generalize (w.alloc (Obj.cells #[.bool false,.int .i64 cn] 83)).alloc (Obj.cells #[.bool false,.int .i64 0] 83)=W2 at *
    go_wp2_with fail
    refine (HBT.out _ _).mono ?_
    rintro e0 w0 ⟨rfl,rfl⟩
    go_wp2
    refine bodyPost_ret (v := .tuple #[.int .i64 (bitP true),.agg #[.bool (true),.int .i64 (0)]]) ?_ rfl ?_
    · simp [results,Tryz.results33,go_sem,z0,z1]
    · exact ⟨rfl,HSET.out⟩
  · have hcb:=ClB.mk' w true cn
    obtain ⟨c0,c1,r0,r1,f0,f1,hl⟩:=hcb.cells
    have hl0:w.heap.size<((w.alloc (Obj.cells #[.bool true,.int .i64 cn] 83)).alloc (Obj.cells #[.bool false,.int .i64 0] 83)).heap.size:=by omega
    obtain ⟨z0,z1,-⟩:=zar hcb.b1 (.bool (true)) (.int .i64 (0))
    have HSET:=Hi (zaE (n:=w.heap.size+1) hcb.bel (by omega) (.bool (true)) (.int .i64 (0)))
    clear hcb
    go_enter Tryz.func33,Tryz.ntmps33
    go_upto_region 1 with fail
    generalize (w.alloc (Obj.cells #[.bool true,.int .i64 cn] 83)).alloc (Obj.cells #[.bool false,.int .i64 0] 83)=W2 at *
    go_wp2_with fail
    refine (HBT.out _ _).mono ?_
    rintro e0 w0 ⟨rfl,rfl⟩
    go_wp2
    refine bodyPost_ret (v := .tuple #[.int .i64 (bitP false),.agg #[.bool (true),.int .i64 (0)]]) ?_ rfl ?_
    · simp [results,Tryz.results33,go_sem,z0,z1]
    · exact ⟨rfl,HSET.out⟩
theorem zlG (n:Int) (on:Bool) (cn:Int) (a b:Bool) (w:World) (_hn0:0≤n) (_hn1:n≤100000) (_hc0:0≤cn) (_hc1:cn≤100000) :
    Calls Tryz.prog 33 #[.int .i64 18,.int .i64 n,.agg #[.bool on,.int .i64 cn],.bool a,.bool b] w (zgm (zcL 18 n ⟨on,cn⟩ a b) w):=by
  have HBT:=Hi (fun b W=>zaZ b W)
  cases a <;> cases on
  · have hcb:=ClB.mk' w false cn
    obtain ⟨c0,c1,r0,r1,f0,f1,hl⟩:=hcb.cells
    have hl0:w.heap.size<((w.alloc (Obj.cells #[.bool false,.int .i64 cn] 83)).alloc (Obj.cells #[.bool false,.int .i64 0] 83)).heap.size:=by omega
    obtain ⟨z0,z1,-⟩:=zar hcb.b1 (.bool (false)) (.int .i64 (0))
    have HSET:=Hi (zaE (n:=w.heap.size+1) hcb.bel (by omega) (.bool (false)) (.int .i64 (0)))
    clear hcb
    go_enter Tryz.func33,Tryz.ntmps33
    go_upto_region 1 with fail
    generalize (w.alloc (Obj.cells #[.bool false,.int .i64 cn] 83)).alloc (Obj.cells #[.bool false,.int .i64 0] 83)=W2 at *
    go_wp2_with fail
    refine (HBT.out _ _).mono ?_
    rintro e0 w0 ⟨rfl,rfl⟩
    go_wp2
    refine bodyPost_ret (v := .tuple #[.int .i64 (bitP false),.agg #[.bool (false),.int .i64 (0)]]) ?_ rfl ?_
    · simp [results,Tryz.results33,go_sem,z0,z1]
    · exact ⟨rfl,HSET.out⟩
  · have hcb:=ClB.mk' w true cn
    obtain ⟨c0,c1,r0,r1,f0,f1,hl⟩:=hcb.cells
    have hl0:w.heap.size<((w.alloc (Obj.cells #[.bool true,.int .i64 cn] 83)).alloc (Obj.cells #[.bool false,.int .i64 0] 83)).heap.size:=by omega
    obtain ⟨z0,z1,-⟩:=zar hcb.b1 (.bool (false)) (.int .i64 (0))
    have HSET:=Hi (zaE (n:=w.heap.size+1) hcb.bel (by omega) (.bool (false)) (.int .i64 (0)))
    clear hcb
    go_enter Tryz.func33,Tryz.ntmps33
    go_upto_region 1 with fail
    generalize (w.alloc (Obj.cells #[.bool true,.int .i64 cn] 83)).alloc (Obj.cells #[.bool false,.int .i64 0] 83)=W2 at *
    go_wp2_with fail
    refine (HBT.out _ _).mono ?_
    rintro e0 w0 ⟨rfl,rfl⟩
    go_wp2
    refine bodyPost_ret (v := .tuple #[.int .i64 (bitP true),.agg #[.bool (false),.int .i64 (0)]]) ?_ rfl ?_
    · simp [results,Tryz.results33,go_sem,z0,z1]
    · exact ⟨rfl,HSET.out⟩
  · have hcb:=ClB.mk' w false cn
    obtain ⟨c0,c1,r0,r1,f0,f1,hl⟩:=hcb.cells
    have hl0:w.heap.size<((w.alloc (Obj.cells #[.bool false,.int .i64 cn] 83)).alloc (Obj.cells #[.bool false,.int .i64 0] 83)).heap.size:=by omega
    obtain ⟨z0,z1,-⟩:=zar hcb.b1 (.bool (true)) (.int .i64 (0))
    have HSET:=Hi (zaE (n:=w.heap.size+1) hcb.bel (by omega) (.bool (true)) (.int .i64 (0)))
    clear hcb
    go_enter Tryz.func33,Tryz.ntmps33
    go_upto_region 1 with fail
    generalize (w.alloc (Obj.cells #[.bool false,.int .i64 cn] 83)).alloc (Obj.cells #[.bool false,.int .i64 0] 83)=W2 at *
    go_wp2_with fail
    refine (HBT.out _ _).mono ?_
    rintro e0 w0 ⟨rfl,rfl⟩
    go_wp2
    refine bodyPost_ret (v := .tuple #[.int .i64 (bitP false),.agg #[.bool (true),.int .i64 (0)]]) ?_ rfl ?_
    · simp [results,Tryz.results33,go_sem,z0,z1]
    · exact ⟨rfl,HSET.out⟩
  · have hcb:=ClB.mk' w true cn
    obtain ⟨c0,c1,r0,r1,f0,f1,hl⟩:=hcb.cells
    have hl0:w.heap.size<((w.alloc (Obj.cells #[.bool true,.int .i64 cn] 83)).alloc (Obj.cells #[.bool false,.int .i64 0] 83)).heap.size:=by omega
    obtain ⟨z0,z1,-⟩:=zar hcb.b1 (.bool (true)) (.int .i64 (0))
    have HSET:=Hi (zaE (n:=w.heap.size+1) hcb.bel (by omega) (.bool (true)) (.int .i64 (0)))
    clear hcb
    go_enter Tryz.func33,Tryz.ntmps33
    go_upto_region 1 with fail
    generalize (w.alloc (Obj.cells #[.bool true,.int .i64 cn] 83)).alloc (Obj.cells #[.bool false,.int .i64 0] 83)=W2 at *
    go_wp2_with fail
    refine (HBT.out _ _).mono ?_
    rintro e0 w0 ⟨rfl,rfl⟩
    go_wp2
    refine bodyPost_ret (v := .tuple #[.int .i64 (bitP false),.agg #[.bool (true),.int .i64 (0)]]) ?_ rfl ?_
    · simp [results,Tryz.results33,go_sem,z0,z1]
    · exact ⟨rfl,HSET.out⟩
theorem zlH (n:Int) (on:Bool) (cn:Int) (a b:Bool) (w:World) (hn0:0≤n) (hn1:n≤100000) (hc0:0≤cn) (hc1:cn≤100000) :
    Calls Tryz.prog 33 #[.int .i64 19,.int .i64 n,.agg #[.bool on,.int .i64 cn],.bool a,.bool b] w (zgm (zcL 19 n ⟨on,cn⟩ a b) w):=by
  have HBT:=Hi (fun b W=>zaZ b W)
  cases a
  · have hcb:=ClB.mk' w on cn
    obtain ⟨c0,c1,r0,r1,f0,f1,hl⟩:=hcb.cells
    have hl0:w.heap.size<((w.alloc (Obj.cells #[.bool on,.int .i64 cn] 83)).alloc (Obj.cells #[.bool false,.int .i64 0] 83)).heap.size:=by omega
    obtain ⟨z0,z1,-⟩:=zar hcb.b1 (.bool (false)) (.int .i64 (0))
    have HSET:=Hi (zaE (n:=w.heap.size+1) hcb.bel (by omega) (.bool (false)) (.int .i64 (0)))
    clear hcb
    go_enter Tryz.func33,Tryz.ntmps33
    go_upto_region 1 with fail
    generalize (w.alloc (Obj.cells #[.bool on,.int .i64 cn] 83)).alloc (Obj.cells #[.bool false,.int .i64 0] 83)=W2 at *
    go_wp2
    refine bodyPost_ret (v := .tuple #[.int .i64 (0),.agg #[.bool (false),.int .i64 (0)]]) ?_ rfl ?_
    · simp [results,Tryz.results33,go_sem,z0,z1]
    · exact ⟨rfl,HSET.out⟩
  · have hcb:=ClB.mk' w on cn
    obtain ⟨c0,c1,r0,r1,f0,f1,hl⟩:=hcb.cells
    have hl0:w.heap.size<((w.alloc (Obj.cells #[.bool on,.int .i64 cn] 83)).alloc (Obj.cells #[.bool false,.int .i64 0] 83)).heap.size:=by omega
    obtain ⟨z0,z1,-⟩:=zar hcb.b1 (.bool (false)) (.int .i64 (min cn n+1))
    have HSET:=Hi (zaE (n:=w.heap.size+1) hcb.bel (by omega) (.bool (false)) (.int .i64 (min cn n+1)))
    clear hcb
    go_enter Tryz.func33,Tryz.ntmps33
    go_upto_region 1 with fail
    generalize (w.alloc (Obj.cells #[.bool on,.int .i64 cn] 83)).alloc (Obj.cells #[.bool false,.int .i64 0] 83)=W2 at *
    go_wp2_with fail
    refine (HBT.out _ _).mono ?_
    rintro e0 w0 ⟨rfl,rfl⟩
    go_wp2
    refine bodyPost_ret (v := .tuple #[.int .i64 (bitP (decide (n<min cn n+1))),.agg #[.bool (false),.int .i64 (min cn n+1)]]) ?_ rfl ?_
    · simp [results,Tryz.results33,go_sem,z0,z1]
    · exact ⟨by rw [show zcL 19 n ⟨on,cn⟩ true b=(bitP (decide (n<min (cn+1) (n+1))),⟨false,min (cn+1) (n+1)⟩) from rfl,show min (cn+1) (n+1)=min cn n+1 by omega],HSET.out⟩
theorem zlI (n:Int) (on:Bool) (cn:Int) (a b:Bool) (w:World) (_hn0:0≤n) (_hn1:n≤100000) (hc0:0≤cn) (hc1:cn≤100000) :
    Calls Tryz.prog 33 #[.int .i64 20,.int .i64 n,.agg #[.bool on,.int .i64 cn],.bool a,.bool b] w (zgm (zcL 20 n ⟨on,cn⟩ a b) w):=by
  have HBT:=Hi (fun b W=>zaZ b W)
  cases a
  · have hcb:=ClB.mk' w on cn
    obtain ⟨c0,c1,r0,r1,f0,f1,hl⟩:=hcb.cells
    have hl0:w.heap.size<((w.alloc (Obj.cells #[.bool on,.int .i64 cn] 83)).alloc (Obj.cells #[.bool false,.int .i64 0] 83)).heap.size:=by omega
    obtain ⟨z0,z1,-⟩:=zar hcb.b1 (.bool (false)) (.int .i64 (max (cn-1) 0))
    have HSET:=Hi (zaE (n:=w.heap.size+1) hcb.bel (by omega) (.bool (false)) (.int .i64 (max (cn-1) 0)))
    clear hcb
    have hwr:IntKind.i64.wrap (cn-1)=cn-1:=IntWalk.i64_in _ (by omega)
    go_enter Tryz.func33,Tryz.ntmps33
    go_upto_region 1 with fail
    generalize (w.alloc (Obj.cells #[.bool on,.int .i64 cn] 83)).alloc (Obj.cells #[.bool false,.int .i64 0] 83)=W2 at *
    go_upto_region 14 with fail
    go_region_law ((go_simp;go_at_call 59;refine (HBT.out _ _).mono ?_;rintro e5 w5 ⟨rfl,rfl⟩))
    all_goals
      go_wp2
      refine bodyPost_ret (v := .tuple #[.int .i64 (bitP (decide (0<cn))),.agg #[.bool (false),.int .i64 (max (cn-1) 0)]]) ?_ rfl ?_
      · simp [results,Tryz.results33,go_sem,z0,z1]
      · exact ⟨rfl,zad HSET.out⟩
  · have hcb:=ClB.mk' w on cn
    obtain ⟨c0,c1,r0,r1,f0,f1,hl⟩:=hcb.cells
    have hl0:w.heap.size<((w.alloc (Obj.cells #[.bool on,.int .i64 cn] 83)).alloc (Obj.cells #[.bool false,.int .i64 0] 83)).heap.size:=by omega
    obtain ⟨z0,z1,-⟩:=zar hcb.b1 (.bool (false)) (.int .i64 (n))
    have HSET:=Hi (zaE (n:=w.heap.size+1) hcb.bel (by omega) (.bool (false)) (.int .i64 (n)))
    clear hcb
    go_enter Tryz.func33,Tryz.ntmps33
    go_upto_region 1 with fail
    generalize (w.alloc (Obj.cells #[.bool on,.int .i64 cn] 83)).alloc (Obj.cells #[.bool false,.int .i64 0] 83)=W2 at *
    go_wp2
    refine bodyPost_ret (v := .tuple #[.int .i64 (1),.agg #[.bool (false),.int .i64 (n)]]) ?_ rfl ?_
    · simp [results,Tryz.results33,go_sem,z0,z1]
    · exact ⟨rfl,HSET.out⟩
theorem zlJ (n:Int) (on:Bool) (cn:Int) (a b:Bool) (w:World) (_hn0:0≤n) (_hn1:n≤100000) (_hc0:0≤cn) (_hc1:cn≤100000) :
    Calls Tryz.prog 33 #[.int .i64 21,.int .i64 n,.agg #[.bool on,.int .i64 cn],.bool a,.bool b] w (zgm (zcL 21 n ⟨on,cn⟩ a b) w):=by
  have HBT:=Hi (fun b W=>zaZ b W)
  cases a <;> cases on <;> cases b
  · have hcb:=ClB.mk' w false cn
    obtain ⟨c0,c1,r0,r1,f0,f1,hl⟩:=hcb.cells
    have hl0:w.heap.size<((w.alloc (Obj.cells #[.bool false,.int .i64 cn] 83)).alloc (Obj.cells #[.bool false,.int .i64 0] 83)).heap.size:=by omega
    obtain ⟨z0,z1,-⟩:=zar hcb.b1 (.bool (false)) (.int .i64 (0))
    have HSET:=Hi (zaE (n:=w.heap.size+1) hcb.bel (by omega) (.bool (false)) (.int .i64 (0)))
    clear hcb
    go_enter Tryz.func33,Tryz.ntmps33
    go_upto_region 1 with fail
    generalize (w.alloc (Obj.cells #[.bool false,.int .i64 cn] 83)).alloc (Obj.cells #[.bool false,.int .i64 0] 83)=W2 at *
    go_wp2_with fail
    refine (HBT.out _ _).mono ?_
    rintro e0 w0 ⟨rfl,rfl⟩
    go_wp2
    refine bodyPost_ret (v := .tuple #[.int .i64 (bitP false),.agg #[.bool (false),.int .i64 (0)]]) ?_ rfl ?_
    · simp [results,Tryz.results33,go_sem,z0,z1]
    · exact ⟨rfl,HSET.out⟩
  · have hcb:=ClB.mk' w false cn
    obtain ⟨c0,c1,r0,r1,f0,f1,hl⟩:=hcb.cells
    have hl0:w.heap.size<((w.alloc (Obj.cells #[.bool false,.int .i64 cn] 83)).alloc (Obj.cells #[.bool false,.int .i64 0] 83)).heap.size:=by omega
    obtain ⟨z0,z1,-⟩:=zar hcb.b1 (.bool (false)) (.int .i64 (0))
    have HSET:=Hi (zaE (n:=w.heap.size+1) hcb.bel (by omega) (.bool (false)) (.int .i64 (0)))
    clear hcb
    go_enter Tryz.func33,Tryz.ntmps33
    go_upto_region 1 with fail
    generalize (w.alloc (Obj.cells #[.bool false,.int .i64 cn] 83)).alloc (Obj.cells #[.bool false,.int .i64 0] 83)=W2 at *
    go_wp2_with fail
    refine (HBT.out _ _).mono ?_
    rintro e0 w0 ⟨rfl,rfl⟩
    go_wp2
    refine bodyPost_ret (v := .tuple #[.int .i64 (bitP false),.agg #[.bool (false),.int .i64 (0)]]) ?_ rfl ?_
    · simp [results,Tryz.results33,go_sem,z0,z1]
    · exact ⟨rfl,HSET.out⟩
  · have hcb:=ClB.mk' w true cn
    obtain ⟨c0,c1,r0,r1,f0,f1,hl⟩:=hcb.cells
    have hl0:w.heap.size<((w.alloc (Obj.cells #[.bool true,.int .i64 cn] 83)).alloc (Obj.cells #[.bool false,.int .i64 0] 83)).heap.size:=by omega
    obtain ⟨z0,z1,-⟩:=zar hcb.b1 (.bool (true)) (.int .i64 (0))
    have HSET:=Hi (zaE (n:=w.heap.size+1) hcb.bel (by omega) (.bool (true)) (.int .i64 (0)))
    clear hcb
    go_enter Tryz.func33,Tryz.ntmps33
    go_upto_region 1 with fail
    generalize (w.alloc (Obj.cells #[.bool true,.int .i64 cn] 83)).alloc (Obj.cells #[.bool false,.int .i64 0] 83)=W2 at *
    go_wp2_with fail
    refine (HBT.out _ _).mono ?_
    rintro e0 w0 ⟨rfl,rfl⟩
    go_wp2
    refine bodyPost_ret (v := .tuple #[.int .i64 (bitP true),.agg #[.bool (true),.int .i64 (0)]]) ?_ rfl ?_
    · simp [results,Tryz.results33,go_sem,z0,z1]
    · exact ⟨rfl,HSET.out⟩
  · have hcb:=ClB.mk' w true cn
    obtain ⟨c0,c1,r0,r1,f0,f1,hl⟩:=hcb.cells
    have hl0:w.heap.size<((w.alloc (Obj.cells #[.bool true,.int .i64 cn] 83)).alloc (Obj.cells #[.bool false,.int .i64 0] 83)).heap.size:=by omega
    obtain ⟨z0,z1,-⟩:=zar hcb.b1 (.bool (false)) (.int .i64 (0))
    have HSET:=Hi (zaE (n:=w.heap.size+1) hcb.bel (by omega) (.bool (false)) (.int .i64 (0)))
    clear hcb
    go_enter Tryz.func33,Tryz.ntmps33
    go_upto_region 1 with fail
    generalize (w.alloc (Obj.cells #[.bool true,.int .i64 cn] 83)).alloc (Obj.cells #[.bool false,.int .i64 0] 83)=W2 at *
    go_wp2_with fail
    refine (HBT.out _ _).mono ?_
    rintro e0 w0 ⟨rfl,rfl⟩
    go_wp2
    refine bodyPost_ret (v := .tuple #[.int .i64 (bitP false),.agg #[.bool (false),.int .i64 (0)]]) ?_ rfl ?_
    · simp [results,Tryz.results33,go_sem,z0,z1]
    · exact ⟨rfl,HSET.out⟩
  · have hcb:=ClB.mk' w false cn
    obtain ⟨c0,c1,r0,r1,f0,f1,hl⟩:=hcb.cells
    have hl0:w.heap.size<((w.alloc (Obj.cells #[.bool false,.int .i64 cn] 83)).alloc (Obj.cells #[.bool false,.int .i64 0] 83)).heap.size:=by omega
    obtain ⟨z0,z1,-⟩:=zar hcb.b1 (.bool (true)) (.int .i64 (0))
    have HSET:=Hi (zaE (n:=w.heap.size+1) hcb.bel (by omega) (.bool (true)) (.int .i64 (0)))
    clear hcb
    go_enter Tryz.func33,Tryz.ntmps33
    go_upto_region 1 with fail
    generalize (w.alloc (Obj.cells #[.bool false,.int .i64 cn] 83)).alloc (Obj.cells #[.bool false,.int .i64 0] 83)=W2 at *
    go_wp2_with fail
    refine (HBT.out _ _).mono ?_
    rintro e0 w0 ⟨rfl,rfl⟩
    go_wp2
    refine bodyPost_ret (v := .tuple #[.int .i64 (bitP true),.agg #[.bool (true),.int .i64 (0)]]) ?_ rfl ?_
    · simp [results,Tryz.results33,go_sem,z0,z1]
    · exact ⟨rfl,HSET.out⟩
  · have hcb:=ClB.mk' w false cn
    obtain ⟨c0,c1,r0,r1,f0,f1,hl⟩:=hcb.cells
    have hl0:w.heap.size<((w.alloc (Obj.cells #[.bool false,.int .i64 cn] 83)).alloc (Obj.cells #[.bool false,.int .i64 0] 83)).heap.size:=by omega
    obtain ⟨z0,z1,-⟩:=zar hcb.b1 (.bool (false)) (.int .i64 (0))
    have HSET:=Hi (zaE (n:=w.heap.size+1) hcb.bel (by omega) (.bool (false)) (.int .i64 (0)))
    clear hcb
    go_enter Tryz.func33,Tryz.ntmps33
    go_upto_region 1 with fail
    generalize (w.alloc (Obj.cells #[.bool false,.int .i64 cn] 83)).alloc (Obj.cells #[.bool false,.int .i64 0] 83)=W2 at *
    go_wp2_with fail
    refine (HBT.out _ _).mono ?_
    rintro e0 w0 ⟨rfl,rfl⟩
    go_wp2
    refine bodyPost_ret (v := .tuple #[.int .i64 (bitP false),.agg #[.bool (false),.int .i64 (0)]]) ?_ rfl ?_
    · simp [results,Tryz.results33,go_sem,z0,z1]
    · exact ⟨rfl,HSET.out⟩
  · have hcb:=ClB.mk' w true cn
    obtain ⟨c0,c1,r0,r1,f0,f1,hl⟩:=hcb.cells
    have hl0:w.heap.size<((w.alloc (Obj.cells #[.bool true,.int .i64 cn] 83)).alloc (Obj.cells #[.bool false,.int .i64 0] 83)).heap.size:=by omega
    obtain ⟨z0,z1,-⟩:=zar hcb.b1 (.bool (true)) (.int .i64 (0))
    have HSET:=Hi (zaE (n:=w.heap.size+1) hcb.bel (by omega) (.bool (true)) (.int .i64 (0)))
    clear hcb
    go_enter Tryz.func33,Tryz.ntmps33
    go_upto_region 1 with fail
    generalize (w.alloc (Obj.cells #[.bool true,.int .i64 cn] 83)).alloc (Obj.cells #[.bool false,.int .i64 0] 83)=W2 at *
    go_wp2_with fail
    refine (HBT.out _ _).mono ?_
    rintro e0 w0 ⟨rfl,rfl⟩
    go_wp2
    refine bodyPost_ret (v := .tuple #[.int .i64 (bitP true),.agg #[.bool (true),.int .i64 (0)]]) ?_ rfl ?_
    · simp [results,Tryz.results33,go_sem,z0,z1]
    · exact ⟨rfl,HSET.out⟩
  · have hcb:=ClB.mk' w true cn
    obtain ⟨c0,c1,r0,r1,f0,f1,hl⟩:=hcb.cells
    have hl0:w.heap.size<((w.alloc (Obj.cells #[.bool true,.int .i64 cn] 83)).alloc (Obj.cells #[.bool false,.int .i64 0] 83)).heap.size:=by omega
    obtain ⟨z0,z1,-⟩:=zar hcb.b1 (.bool (false)) (.int .i64 (0))
    have HSET:=Hi (zaE (n:=w.heap.size+1) hcb.bel (by omega) (.bool (false)) (.int .i64 (0)))
    clear hcb
    go_enter Tryz.func33,Tryz.ntmps33
    go_upto_region 1 with fail
    generalize (w.alloc (Obj.cells #[.bool true,.int .i64 cn] 83)).alloc (Obj.cells #[.bool false,.int .i64 0] 83)=W2 at *
    go_wp2_with fail
    refine (HBT.out _ _).mono ?_
    rintro e0 w0 ⟨rfl,rfl⟩
    go_wp2
    refine bodyPost_ret (v := .tuple #[.int .i64 (bitP false),.agg #[.bool (false),.int .i64 (0)]]) ?_ rfl ?_
    · simp [results,Tryz.results33,go_sem,z0,z1]
    · exact ⟨rfl,HSET.out⟩
theorem zlK (n:Int) (on:Bool) (cn:Int) (a b:Bool) (w:World) (_hn0:0≤n) (_hn1:n≤100000) (hc0:0≤cn) (hc1:cn≤100000) :
    Calls Tryz.prog 33 #[.int .i64 22,.int .i64 n,.agg #[.bool on,.int .i64 cn],.bool a,.bool b] w (zgm (zcL 22 n ⟨on,cn⟩ a b) w):=by
  have HBT:=Hi (fun b W=>zaZ b W)
  cases a <;> cases on <;> cases b
  · have hcb:=ClB.mk' w false cn
    obtain ⟨c0,c1,r0,r1,f0,f1,hl⟩:=hcb.cells
    have hl0:w.heap.size<((w.alloc (Obj.cells #[.bool false,.int .i64 cn] 83)).alloc (Obj.cells #[.bool false,.int .i64 0] 83)).heap.size:=by omega
    obtain ⟨z0,z1,-⟩:=zar hcb.b1 (.bool (false)) (.int .i64 (cn))
    have HSET:=Hi (zaE (n:=w.heap.size+1) hcb.bel (by omega) (.bool (false)) (.int .i64 (cn)))
    clear hcb
    go_enter Tryz.func33,Tryz.ntmps33
    go_upto_region 1 with fail
    generalize (w.alloc (Obj.cells #[.bool false,.int .i64 cn] 83)).alloc (Obj.cells #[.bool false,.int .i64 0] 83)=W2 at *
    go_wp2
    refine bodyPost_ret (v := .tuple #[.int .i64 (cn),.agg #[.bool (false),.int .i64 (cn)]]) ?_ rfl ?_
    · simp [results,Tryz.results33,go_sem,z0,z1]
    · exact ⟨rfl,HSET.out⟩
  · have hcb:=ClB.mk' w false cn
    obtain ⟨c0,c1,r0,r1,f0,f1,hl⟩:=hcb.cells
    have hl0:w.heap.size<((w.alloc (Obj.cells #[.bool false,.int .i64 cn] 83)).alloc (Obj.cells #[.bool false,.int .i64 0] 83)).heap.size:=by omega
    obtain ⟨z0,z1,-⟩:=zar hcb.b1 (.bool (false)) (.int .i64 (0))
    have HSET:=Hi (zaE (n:=w.heap.size+1) hcb.bel (by omega) (.bool (false)) (.int .i64 (0)))
    clear hcb
    go_enter Tryz.func33,Tryz.ntmps33
    go_upto_region 1 with fail
    generalize (w.alloc (Obj.cells #[.bool false,.int .i64 cn] 83)).alloc (Obj.cells #[.bool false,.int .i64 0] 83)=W2 at *
    go_wp2
    refine bodyPost_ret (v := .tuple #[.int .i64 (0),.agg #[.bool (false),.int .i64 (0)]]) ?_ rfl ?_
    · simp [results,Tryz.results33,go_sem,z0,z1]
    · exact ⟨rfl,HSET.out⟩
  · have hcb:=ClB.mk' w true cn
    obtain ⟨c0,c1,r0,r1,f0,f1,hl⟩:=hcb.cells
    have hl0:w.heap.size<((w.alloc (Obj.cells #[.bool true,.int .i64 cn] 83)).alloc (Obj.cells #[.bool false,.int .i64 0] 83)).heap.size:=by omega
    obtain ⟨z0,z1,-⟩:=zar hcb.b1 (.bool (false)) (.int .i64 (cn))
    have HSET:=Hi (zaE (n:=w.heap.size+1) hcb.bel (by omega) (.bool (false)) (.int .i64 (cn)))
    clear hcb
    go_enter Tryz.func33,Tryz.ntmps33
    go_upto_region 1 with fail
    generalize (w.alloc (Obj.cells #[.bool true,.int .i64 cn] 83)).alloc (Obj.cells #[.bool false,.int .i64 0] 83)=W2 at *
    go_wp2
    refine bodyPost_ret (v := .tuple #[.int .i64 (cn),.agg #[.bool (false),.int .i64 (cn)]]) ?_ rfl ?_
    · simp [results,Tryz.results33,go_sem,z0,z1]
    · exact ⟨rfl,HSET.out⟩
  · have hcb:=ClB.mk' w true cn
    obtain ⟨c0,c1,r0,r1,f0,f1,hl⟩:=hcb.cells
    have hl0:w.heap.size<((w.alloc (Obj.cells #[.bool true,.int .i64 cn] 83)).alloc (Obj.cells #[.bool false,.int .i64 0] 83)).heap.size:=by omega
    obtain ⟨z0,z1,-⟩:=zar hcb.b1 (.bool (false)) (.int .i64 (0))
    have HSET:=Hi (zaE (n:=w.heap.size+1) hcb.bel (by omega) (.bool (false)) (.int .i64 (0)))
    clear hcb
    go_enter Tryz.func33,Tryz.ntmps33
    go_upto_region 1 with fail
    generalize (w.alloc (Obj.cells #[.bool true,.int .i64 cn] 83)).alloc (Obj.cells #[.bool false,.int .i64 0] 83)=W2 at *
    go_wp2
    refine bodyPost_ret (v := .tuple #[.int .i64 (0),.agg #[.bool (false),.int .i64 (0)]]) ?_ rfl ?_
    · simp [results,Tryz.results33,go_sem,z0,z1]
    · exact ⟨rfl,HSET.out⟩
  · have hcb:=ClB.mk' w false cn
    obtain ⟨c0,c1,r0,r1,f0,f1,hl⟩:=hcb.cells
    have hl0:w.heap.size<((w.alloc (Obj.cells #[.bool false,.int .i64 cn] 83)).alloc (Obj.cells #[.bool false,.int .i64 0] 83)).heap.size:=by omega
    obtain ⟨z0,z1,-⟩:=zar hcb.b1 (.bool (true)) (.int .i64 (min (cn+1) 32767))
    have HSET:=Hi (zaE (n:=w.heap.size+1) hcb.bel (by omega) (.bool (true)) (.int .i64 (min (cn+1) 32767)))
    clear hcb
    go_enter Tryz.func33,Tryz.ntmps33
    go_upto_region 1 with fail
    generalize (w.alloc (Obj.cells #[.bool false,.int .i64 cn] 83)).alloc (Obj.cells #[.bool false,.int .i64 0] 83)=W2 at *
    go_wp2
    refine bodyPost_ret (v := .tuple #[.int .i64 (min (cn+1) 32767),.agg #[.bool (true),.int .i64 (min (cn+1) 32767)]]) ?_ rfl ?_
    · simp [results,Tryz.results33,go_sem,z0,z1]
    · exact ⟨rfl,HSET.out⟩
  · have hcb:=ClB.mk' w false cn
    obtain ⟨c0,c1,r0,r1,f0,f1,hl⟩:=hcb.cells
    have hl0:w.heap.size<((w.alloc (Obj.cells #[.bool false,.int .i64 cn] 83)).alloc (Obj.cells #[.bool false,.int .i64 0] 83)).heap.size:=by omega
    obtain ⟨z0,z1,-⟩:=zar hcb.b1 (.bool (true)) (.int .i64 (0))
    have HSET:=Hi (zaE (n:=w.heap.size+1) hcb.bel (by omega) (.bool (true)) (.int .i64 (0)))
    clear hcb
    go_enter Tryz.func33,Tryz.ntmps33
    go_upto_region 1 with fail
    generalize (w.alloc (Obj.cells #[.bool false,.int .i64 cn] 83)).alloc (Obj.cells #[.bool false,.int .i64 0] 83)=W2 at *
    go_wp2
    refine bodyPost_ret (v := .tuple #[.int .i64 (0),.agg #[.bool (true),.int .i64 (0)]]) ?_ rfl ?_
    · simp [results,Tryz.results33,go_sem,z0,z1]
    · exact ⟨rfl,HSET.out⟩
  · have hcb:=ClB.mk' w true cn
    obtain ⟨c0,c1,r0,r1,f0,f1,hl⟩:=hcb.cells
    have hl0:w.heap.size<((w.alloc (Obj.cells #[.bool true,.int .i64 cn] 83)).alloc (Obj.cells #[.bool false,.int .i64 0] 83)).heap.size:=by omega
    obtain ⟨z0,z1,-⟩:=zar hcb.b1 (.bool (true)) (.int .i64 (cn))
    have HSET:=Hi (zaE (n:=w.heap.size+1) hcb.bel (by omega) (.bool (true)) (.int .i64 (cn)))
    clear hcb
    go_enter Tryz.func33,Tryz.ntmps33
    go_upto_region 1 with fail
    generalize (w.alloc (Obj.cells #[.bool true,.int .i64 cn] 83)).alloc (Obj.cells #[.bool false,.int .i64 0] 83)=W2 at *
    go_wp2
    refine bodyPost_ret (v := .tuple #[.int .i64 (cn),.agg #[.bool (true),.int .i64 (cn)]]) ?_ rfl ?_
    · simp [results,Tryz.results33,go_sem,z0,z1]
    · exact ⟨rfl,HSET.out⟩
  · have hcb:=ClB.mk' w true cn
    obtain ⟨c0,c1,r0,r1,f0,f1,hl⟩:=hcb.cells
    have hl0:w.heap.size<((w.alloc (Obj.cells #[.bool true,.int .i64 cn] 83)).alloc (Obj.cells #[.bool false,.int .i64 0] 83)).heap.size:=by omega
    obtain ⟨z0,z1,-⟩:=zar hcb.b1 (.bool (true)) (.int .i64 (0))
    have HSET:=Hi (zaE (n:=w.heap.size+1) hcb.bel (by omega) (.bool (true)) (.int .i64 (0)))
    clear hcb
    go_enter Tryz.func33,Tryz.ntmps33
    go_upto_region 1 with fail
    generalize (w.alloc (Obj.cells #[.bool true,.int .i64 cn] 83)).alloc (Obj.cells #[.bool false,.int .i64 0] 83)=W2 at *
    go_wp2
    refine bodyPost_ret (v := .tuple #[.int .i64 (0),.agg #[.bool (true),.int .i64 (0)]]) ?_ rfl ?_
    · simp [results,Tryz.results33,go_sem,z0,z1]
    · exact ⟨rfl,HSET.out⟩
theorem zjk {op n:Int} {c:Cs} (a b:Bool) (w:World) (h17:17≤op∧op≤22) (hn:0≤n∧n≤100000) (hc:0≤c.n∧c.n≤100000) :
    Calls Tryz.prog 33 #[.int .i64 op,.int .i64 n,.agg #[.bool c.on,.int .i64 c.n],.bool a,.bool b] w (zgm (zcL op n c a b) w):=by
  obtain ⟨on,cn⟩:=c;have hop:op=17∨op=18∨op=19∨op=20∨op=21∨op=22:=by omega
  rcases hop with rfl | rfl | rfl | rfl | rfl | rfl
  · exact zlF n on cn a b w hn.1 hn.2 hc.1 hc.2
  · exact zlG n on cn a b w hn.1 hn.2 hc.1 hc.2
  · exact zlH n on cn a b w hn.1 hn.2 hc.1 hc.2
  · exact zlI n on cn a b w hn.1 hn.2 hc.1 hc.2
  · exact zlJ n on cn a b w hn.1 hn.2 hc.1 hc.2
  · exact zlK n on cn a b w hn.1 hn.2 hc.1 hc.2
theorem ziU {x y:Int} (hx0 : -1000000000≤x) (hx1:x≤1000000000) (hy0 : -1000000000≤y) (hy1:y≤1000000000) : -1000000000000000000≤x*y∧x*y≤1000000000000000000:=by
  have h:(x*y).natAbs≤1000000000*1000000000:=by
    rw [Int.natAbs_mul];exact Nat.mul_le_mul (by omega) (by omega)
  omega
theorem zbR {w:World} {S:Nat→Prop} {A:Option Addr} {n:Nat} {l:List Int} (h:Rw IaC 1 w S A n l) (h0:0<n):∃ b o,A=some ⟨b,o,none⟩∧S b∧∀ k x,l[k]? = some x→w.cell? ⟨b,o+k,none⟩=some (.int .i64 x):=by
  obtain ⟨b,o,e,hb,hr⟩:=h.2 h0;refine ⟨b,o,e,hb,fun k x hx => ?_⟩
  obtain ⟨cs,-,rfl,hat⟩:=hr k x hx;simpa using hat 0 _ rfl
theorem zlO (x:Int) (A:Option Addr) (c:Nat) (w:World) (hr:Rw IaC 1 w (Old w) A 1 [x]) (_hx0 : -1000000000≤x) (_hx1:x≤1000000000) :
    Calls Tryz.prog 34 #[.int .i64 4,.slice A 1 c] w (RetIB (zau 4 [x]) w):=by
  obtain ⟨b,o,rfl,hb,hat⟩:=zbR hr (by decide);have hbk:b<w.heap.size:=hb;have y0:w.cell? ⟨b,o,none⟩=some (.int .i64 x):=hat 0 x rfl;have HBT:=Hi (fun b W=>zaZ b W);have HLM:=Hi (fun v W=>zaV v W);clear hr hat hb;have HE:=Hi (show 1-x=zau 4 [x] from rfl);go_enter Tryz.func34,Tryz.ntmps34;go_wp2;go_ret
  exact RetIB.mk HE.out (Below.refl _ _)
theorem zlP (x y:Int) (A:Option Addr) (c:Nat) (w:World) (hr:Rw IaC 1 w (Old w) A 2 [x,y]) (hx0 : -1000000000≤x) (hx1:x≤1000000000) (hy0 : -1000000000≤y) (hy1:y≤1000000000) :
    Calls Tryz.prog 34 #[.int .i64 5,.slice A 2 c] w (RetIB (zau 5 [x,y]) w):=by
  obtain ⟨b,o,rfl,hb,hat⟩:=zbR hr (by decide);have hbk:b<w.heap.size:=hb;have y0:w.cell? ⟨b,o,none⟩=some (.int .i64 x):=hat 0 x rfl;have y1:w.cell? ⟨b,o+1,none⟩=some (.int .i64 y):=hat 1 y rfl;have HBT:=Hi (fun b W=>zaZ b W);have HLM:=Hi (fun v W=>zaV v W);clear hr hat hb;have hmm:=ziU hx0 hx1 hy0 hy1;obtain ⟨hm0,hm1⟩:=hmm;have HE:=Hi (show x*y=zau 5 [x,y] from rfl);go_enter Tryz.func34,Tryz.ntmps34;go_upto_region 5 with fail
  go_region
  go_wp2;go_ret
  exact RetIB.mk HE.out (zad (Below.refl _ _))
theorem zlQ (x y:Int) (A:Option Addr) (c:Nat) (w:World) (hr:Rw IaC 1 w (Old w) A 2 [x,y]) (_hx0 : -1000000000≤x) (_hx1:x≤1000000000) (_hy0 : -1000000000≤y) (_hy1:y≤1000000000) :
    Calls Tryz.prog 34 #[.int .i64 6,.slice A 2 c] w (RetIB (zau 6 [x,y]) w):=by
  obtain ⟨b,o,rfl,hb,hat⟩:=zbR hr (by decide);have hbk:b<w.heap.size:=hb;have y0:w.cell? ⟨b,o,none⟩=some (.int .i64 x):=hat 0 x rfl;have y1:w.cell? ⟨b,o+1,none⟩=some (.int .i64 y):=hat 1 y rfl;have HBT:=Hi (fun b W=>zaZ b W);have HLM:=Hi (fun v W=>zaV v W);clear hr hat hb;have HE:=Hi (show max x y=zau 6 [x,y] from rfl);go_enter Tryz.func34,Tryz.ntmps34;go_upto_region 7 with fail
  go_region
  go_wp2;go_ret
  exact RetIB.mk HE.out (zad (Below.refl _ _))
theorem zlR (x y:Int) (A:Option Addr) (c:Nat) (w:World) (hr:Rw IaC 1 w (Old w) A 2 [x,y]) (_hx0 : -1000000000≤x) (_hx1:x≤1000000000) (_hy0 : -1000000000≤y) (_hy1:y≤1000000000) :
    Calls Tryz.prog 34 #[.int .i64 7,.slice A 2 c] w (RetIB (zau 7 [x,y]) w):=by
  obtain ⟨b,o,rfl,hb,hat⟩:=zbR hr (by decide);have hbk:b<w.heap.size:=hb;have y0:w.cell? ⟨b,o,none⟩=some (.int .i64 x):=hat 0 x rfl;have y1:w.cell? ⟨b,o+1,none⟩=some (.int .i64 y):=hat 1 y rfl;have HBT:=Hi (fun b W=>zaZ b W);have HLM:=Hi (fun v W=>zaV v W);clear hr hat hb;have HE:=Hi (show bitP (x != y)=zau 7 [x,y] by rw [show (x != y)=decide (x≠y) by rw [Bool.eq_iff_iff];simp];rfl);go_enter Tryz.func34,Tryz.ntmps34;go_upto_region 9 with fail
  go_region_law ((go_simp;go_at_call 59;refine (HBT.out _ _).mono ?_;rintro e5 w5 ⟨rfl,rfl⟩))
  all_goals
    go_wp2;go_ret
    exact RetIB.mk HE.out (zad (Below.refl _ _))
theorem zlS (x y:Int) (A:Option Addr) (c:Nat) (w:World) (hr:Rw IaC 1 w (Old w) A 2 [x,y]) (_hx0 : -1000000000≤x) (_hx1:x≤1000000000) (_hy0 : -1000000000≤y) (_hy1:y≤1000000000) :
    Calls Tryz.prog 34 #[.int .i64 8,.slice A 2 c] w (RetIB (zau 8 [x,y]) w):=by
  obtain ⟨b,o,rfl,hb,hat⟩:=zbR hr (by decide);have hbk:b<w.heap.size:=hb;have y0:w.cell? ⟨b,o,none⟩=some (.int .i64 x):=hat 0 x rfl;have y1:w.cell? ⟨b,o+1,none⟩=some (.int .i64 y):=hat 1 y rfl;have HBT:=Hi (fun b W=>zaZ b W);have HLM:=Hi (fun v W=>zaV v W);clear hr hat hb;have HE:=Hi (show bitP (decide (x<y))=zau 8 [x,y] from rfl);go_enter Tryz.func34,Tryz.ntmps34;go_upto_region 11 with fail
  go_region_law ((go_simp;go_at_call 59;refine (HBT.out _ _).mono ?_;rintro e5 w5 ⟨rfl,rfl⟩))
  all_goals
    go_wp2;go_ret
    exact RetIB.mk HE.out (zad (Below.refl _ _))
theorem zlT (x y:Int) (A:Option Addr) (c:Nat) (w:World) (hr:Rw IaC 1 w (Old w) A 2 [x,y]) (_hx0 : -1000000000≤x) (_hx1:x≤1000000000) (_hy0 : -1000000000≤y) (_hy1:y≤1000000000) :
    Calls Tryz.prog 34 #[.int .i64 9,.slice A 2 c] w (RetIB (zau 9 [x,y]) w):=by
  obtain ⟨b,o,rfl,hb,hat⟩:=zbR hr (by decide);have hbk:b<w.heap.size:=hb;have y0:w.cell? ⟨b,o,none⟩=some (.int .i64 x):=hat 0 x rfl;have y1:w.cell? ⟨b,o+1,none⟩=some (.int .i64 y):=hat 1 y rfl;have HBT:=Hi (fun b W=>zaZ b W);have HLM:=Hi (fun v W=>zaV v W);clear hr hat hb;have HE:=Hi (show bitP (decide (y<x))=zau 9 [x,y] from rfl);go_enter Tryz.func34,Tryz.ntmps34;go_upto_region 13 with fail
  go_region_law ((go_simp;go_at_call 59;refine (HBT.out _ _).mono ?_;rintro e5 w5 ⟨rfl,rfl⟩))
  all_goals
    go_wp2;go_ret
    exact RetIB.mk HE.out (zad (Below.refl _ _))
theorem zks (x y:Int) (A:Option Addr) (c:Nat) (w:World) (hr:Rw IaC 1 w (Old w) A 2 [x,y]) (_hx0 : -1000000000≤x) (_hx1:x≤1000000000) (_hy0 : -1000000000≤y) (_hy1:y≤1000000000) :
    Calls Tryz.prog 34 #[.int .i64 10,.slice A 2 c] w (RetIB (zau 10 [x,y]) w):=by
  obtain ⟨b,o,rfl,hb,hat⟩:=zbR hr (by decide);have hbk:b<w.heap.size:=hb;have y0:w.cell? ⟨b,o,none⟩=some (.int .i64 x):=hat 0 x rfl;have y1:w.cell? ⟨b,o+1,none⟩=some (.int .i64 y):=hat 1 y rfl;have HBT:=Hi (fun b W=>zaZ b W);have HLM:=Hi (fun v W=>zaV v W);clear hr hat hb;have HE:=Hi (show bitP (decide (x=y))=zau 10 [x,y] from rfl);go_enter Tryz.func34,Tryz.ntmps34;go_upto_region 15 with fail
  go_region_law ((go_simp;go_at_call 59;refine (HBT.out _ _).mono ?_;rintro e5 w5 ⟨rfl,rfl⟩))
  all_goals
    go_wp2;go_ret
    exact RetIB.mk HE.out (zad (Below.refl _ _))
theorem zkt (x y:Int) (A:Option Addr) (c:Nat) (w:World) (hr:Rw IaC 1 w (Old w) A 2 [x,y]) (_hx0 : -1000000000≤x) (_hx1:x≤1000000000) (_hy0 : -1000000000≤y) (_hy1:y≤1000000000) :
    Calls Tryz.prog 34 #[.int .i64 11,.slice A 2 c] w (RetIB (zau 11 [x,y]) w):=by
  obtain ⟨b,o,rfl,hb,hat⟩:=zbR hr (by decide);have hbk:b<w.heap.size:=hb;have y0:w.cell? ⟨b,o,none⟩=some (.int .i64 x):=hat 0 x rfl;have y1:w.cell? ⟨b,o+1,none⟩=some (.int .i64 y):=hat 1 y rfl;have HBT:=Hi (fun b W=>zaZ b W);have HLM:=Hi (fun v W=>zaV v W);clear hr hat hb;have HE:=Hi (show limP (IntKind.i64.wrap (x+y))=zau 11 [x,y] by rw [IntWalk.i64_in _ (by omega)];rfl);go_enter Tryz.func34,Tryz.ntmps34;go_upto_region 17 with fail
  go_region_law ((go_simp;go_at_call 11;refine (HLM.out _ _).mono ?_;rintro e5 w5 ⟨rfl,rfl⟩))
  all_goals
    go_wp2;go_ret
    exact RetIB.mk HE.out (zad (Below.refl _ _))
theorem zku (x y:Int) (A:Option Addr) (c:Nat) (w:World) (hr:Rw IaC 1 w (Old w) A 2 [x,y]) (_hx0 : -1000000000≤x) (_hx1:x≤1000000000) (_hy0 : -1000000000≤y) (_hy1:y≤1000000000) :
    Calls Tryz.prog 34 #[.int .i64 12,.slice A 2 c] w (RetIB (zau 12 [x,y]) w):=by
  obtain ⟨b,o,rfl,hb,hat⟩:=zbR hr (by decide);have hbk:b<w.heap.size:=hb;have y0:w.cell? ⟨b,o,none⟩=some (.int .i64 x):=hat 0 x rfl;have y1:w.cell? ⟨b,o+1,none⟩=some (.int .i64 y):=hat 1 y rfl;have HBT:=Hi (fun b W=>zaZ b W);have HLM:=Hi (fun v W=>zaV v W);clear hr hat hb;have HE:=Hi (show limP (IntKind.i64.wrap (x-y))=zau 12 [x,y] by rw [IntWalk.i64_in _ (by omega)];rfl);go_enter Tryz.func34,Tryz.ntmps34;go_upto_region 19 with fail
  go_region_law ((go_simp;go_at_call 11;refine (HLM.out _ _).mono ?_;rintro e5 w5 ⟨rfl,rfl⟩))
  all_goals
    go_wp2;go_ret
    exact RetIB.mk HE.out (zad (Below.refl _ _))
theorem zkv (x y:Int) (A:Option Addr) (c:Nat) (w:World) (hr:Rw IaC 1 w (Old w) A 2 [x,y]) (_hx0 : -1000000000≤x) (_hx1:x≤1000000000) (_hy0 : -1000000000≤y) (_hy1:y≤1000000000) :
    Calls Tryz.prog 34 #[.int .i64 13,.slice A 2 c] w (RetIB (zau 13 [x,y]) w):=by
  obtain ⟨b,o,rfl,hb,hat⟩:=zbR hr (by decide);have hbk:b<w.heap.size:=hb;have y0:w.cell? ⟨b,o,none⟩=some (.int .i64 x):=hat 0 x rfl;have y1:w.cell? ⟨b,o+1,none⟩=some (.int .i64 y):=hat 1 y rfl;have HBT:=Hi (fun b W=>zaZ b W);have HLM:=Hi (fun v W=>zaV v W);clear hr hat hb;have HE:=Hi (show min x y=zau 13 [x,y] from rfl);go_enter Tryz.func34,Tryz.ntmps34;go_upto_region 21 with fail
  go_region
  go_wp2;go_ret
  exact RetIB.mk HE.out (zad (Below.refl _ _))
theorem zkw (x y:Int) (A:Option Addr) (c:Nat) (w:World) (hr:Rw IaC 1 w (Old w) A 2 [x,y]) (_hx0 : -1000000000≤x) (_hx1:x≤1000000000) (_hy0 : -1000000000≤y) (_hy1:y≤1000000000) :
    Calls Tryz.prog 34 #[.int .i64 14,.slice A 2 c] w (RetIB (zau 14 [x,y]) w):=by
  obtain ⟨b,o,rfl,hb,hat⟩:=zbR hr (by decide);have hbk:b<w.heap.size:=hb;have y0:w.cell? ⟨b,o,none⟩=some (.int .i64 x):=hat 0 x rfl;have y1:w.cell? ⟨b,o+1,none⟩=some (.int .i64 y):=hat 1 y rfl;have HBT:=Hi (fun b W=>zaZ b W);have HLM:=Hi (fun v W=>zaV v W);clear hr hat hb;have HE:=Hi (show max x y=zau 14 [x,y] from rfl);go_enter Tryz.func34,Tryz.ntmps34;go_upto_region 23 with fail
  go_region
  go_wp2;go_ret
  exact RetIB.mk HE.out (zad (Below.refl _ _))
theorem zkx (x:Int) (A:Option Addr) (c:Nat) (w:World) (hr:Rw IaC 1 w (Old w) A 1 [x]) (_hx0 : -1000000000≤x) (_hx1:x≤1000000000) :
    Calls Tryz.prog 34 #[.int .i64 15,.slice A 1 c] w (RetIB (zau 15 [x]) w):=by
  obtain ⟨b,o,rfl,hb,hat⟩:=zbR hr (by decide);have hbk:b<w.heap.size:=hb;have y0:w.cell? ⟨b,o,none⟩=some (.int .i64 x):=hat 0 x rfl;have HBT:=Hi (fun b W=>zaZ b W);have HLM:=Hi (fun v W=>zaV v W);clear hr hat hb;have HE:=Hi (show max x (-x)=zau 15 [x] from rfl);go_enter Tryz.func34,Tryz.ntmps34;go_upto_region 25 with fail
  go_region
  go_wp2;go_ret
  exact RetIB.mk HE.out (zad (Below.refl _ _))
theorem zjq (y z:Int) (A:Option Addr) (c:Nat) (w:World) (hr:Rw IaC 1 w (Old w) A 3 [0,y,z]) :
    Calls Tryz.prog 34 #[.int .i64 16,.slice A 3 c] w (RetIB z w):=by
  obtain ⟨b,o,rfl,hb,hat⟩:=zbR hr (by decide);have hbk:b<w.heap.size:=hb;have y0:w.cell? ⟨b,o,none⟩=some (.int .i64 0):=hat 0 0 rfl;have y1:w.cell? ⟨b,o+2,none⟩=some (.int .i64 z):=hat 2 z rfl;clear hr hat hb;go_enter Tryz.func34,Tryz.ntmps34;go_wp2;go_ret
  exact ⟨rfl,Below.refl _ _⟩
theorem zjr (y z:Int) (A:Option Addr) (c:Nat) (w:World) (hr:Rw IaC 1 w (Old w) A 3 [1,y,z]) :
    Calls Tryz.prog 34 #[.int .i64 16,.slice A 3 c] w (RetIB y w):=by
  obtain ⟨b,o,rfl,hb,hat⟩:=zbR hr (by decide);have hbk:b<w.heap.size:=hb;have y0:w.cell? ⟨b,o,none⟩=some (.int .i64 1):=hat 0 1 rfl;have y1:w.cell? ⟨b,o+1,none⟩=some (.int .i64 y):=hat 1 y rfl;clear hr hat hb;go_enter Tryz.func34,Tryz.ntmps34;go_wp2;go_ret
  exact ⟨rfl,Below.refl _ _⟩
theorem zh0 {op:Int} {args:List Int} (A:Option Addr) (c:Nat) (w:World) (h4:4≤op∧op≤16) (hl:opnP op=args.length) (hv:∀ x∈args,-1000000000≤x∧x≤1000000000) (h16:op=16→args.getD 0 0=0∨args.getD 0 0=1) (hr:Rw IaC 1 w (Old w) A args.length args) :
    Calls Tryz.prog 34 #[.int .i64 op,.slice A args.length c] w (RetIB (zau op args) w):=by
  have hop:op=4∨op=15∨op=16∨op=5∨op=6∨op=7∨op=8∨op=9∨op=10∨op=11∨op=12∨op=13∨op=14:=by omega
  rcases hop with rfl | rfl | rfl | rfl | rfl | rfl | rfl | rfl | rfl | rfl | rfl | rfl | rfl
  · match args,hl,hv,hr with
    | [x],_,hv,hr=>exact zlO x A c w hr (hv x (by simp)).1 (hv x (by simp)).2
  · match args,hl,hv,hr with
    | [x],_,hv,hr=>exact zkx x A c w hr (hv x (by simp)).1 (hv x (by simp)).2
  · match args,hl,h16,hr with
    | [x,y,z],_,h16,hr =>
      rcases h16 rfl with h | h
      · have h':x=0:=h
        subst h'
        exact zjq y z A c w hr
      · have h':x=1:=h
        subst h'
        exact zjr y z A c w hr
  · match args,hl,hv,hr with
    | [x,y],_,hv,hr=>exact zlP x y A c w hr (hv x (by simp)).1 (hv x (by simp)).2 (hv y (by simp)).1 (hv y (by simp)).2
  · match args,hl,hv,hr with
    | [x,y],_,hv,hr=>exact zlQ x y A c w hr (hv x (by simp)).1 (hv x (by simp)).2 (hv y (by simp)).1 (hv y (by simp)).2
  · match args,hl,hv,hr with
    | [x,y],_,hv,hr=>exact zlR x y A c w hr (hv x (by simp)).1 (hv x (by simp)).2 (hv y (by simp)).1 (hv y (by simp)).2
  · match args,hl,hv,hr with
    | [x,y],_,hv,hr=>exact zlS x y A c w hr (hv x (by simp)).1 (hv x (by simp)).2 (hv y (by simp)).1 (hv y (by simp)).2
  · match args,hl,hv,hr with
    | [x,y],_,hv,hr=>exact zlT x y A c w hr (hv x (by simp)).1 (hv x (by simp)).2 (hv y (by simp)).1 (hv y (by simp)).2
  · match args,hl,hv,hr with
    | [x,y],_,hv,hr=>exact zks x y A c w hr (hv x (by simp)).1 (hv x (by simp)).2 (hv y (by simp)).1 (hv y (by simp)).2
  · match args,hl,hv,hr with
    | [x,y],_,hv,hr=>exact zkt x y A c w hr (hv x (by simp)).1 (hv x (by simp)).2 (hv y (by simp)).1 (hv y (by simp)).2
  · match args,hl,hv,hr with
    | [x,y],_,hv,hr=>exact zku x y A c w hr (hv x (by simp)).1 (hv x (by simp)).2 (hv y (by simp)).1 (hv y (by simp)).2
  · match args,hl,hv,hr with
    | [x,y],_,hv,hr=>exact zkv x y A c w hr (hv x (by simp)).1 (hv x (by simp)).2 (hv y (by simp)).1 (hv y (by simp)).2
  · match args,hl,hv,hr with
    | [x,y],_,hv,hr=>exact zkw x y A c w hr (hv x (by simp)).1 (hv x (by simp)).2 (hv y (by simp)).1 (hv y (by simp)).2
end Go.Proofs.YtcikenlflcofbaaGreatDoor
