/-
 The program's check of the settings: the lists of a relay, a relay added to the checker, all relays.
-/
import Derived.Test.YtjkimieapfbhbaaGreatDoorPUc
import Derived.Test.YtjkimieapfbhbaaGreatDoorPUd
import Derived.Test.YtjkimieapfbhbaaGreatDoorPUe
import Derived.Test.YtjkimieapfbhbaaGreatDoorKPUh
import Derived.Test.YtjkimieapfbhbaaGreatDoorPUi
import Derived.Test.YtjkimieapfbhbaaGreatDoorKOpC
import Derived.Test.YtjkimieapfbhbaaGreatDoorKPubP
import Derived.Laws.EntriesVeiled
set_option maxRecDepth 100000
set_option maxHeartbeats 16000000
open Go.Obj renaming cells → d
open Go.Value renaming slice → f, string → u
open Option renaming none → g
open Nat renaming lt_of_lt_of_le → l, le_refl → m, le_trans → v, le_of_lt → z
namespace Go.Proofs.YtjkimieapfbhbaaGreatDoor
open Go.RowKit
theorem zlc (cs:List Value) (x:RelayX) (B:Nat) (w:World) (hB:B≤w.heap.size) (h:RelayXC w B cs x) (hc:CountF x.r) (hru:∀ (k:Nat) (y:ByteArray × ByteArray),x.r.rules[k]? = some y→RuleF x.r.rules k y) (hl:ListsF x) :
 Calls Tryz.prog 142 #[.agg cs.toArray] w (zaU 0 w):=by
 obtain ⟨c49,h49,A1,k1,e1,l1,m1,R1⟩:=h.base.rules;obtain ⟨c50,h50,A2,k2,e2,l2,m2,R2⟩:=h.base.sets;obtain ⟨c51,h51,A3,k3,e3,l3,m3,R3⟩:=h.pubs;obtain ⟨c52,h52,A4,k4,e4,l4,m4,R4⟩:=h.base.subs
 cases e1;cases e2;cases e3;cases e4
 obtain ⟨u1,u2,u3,u4,u5⟩:=hc;have u3':x.pubs.length≤4:=by have e:=h.same;rw [e,List.length_map] at u3;exact u3
 have hb:Below w.heap.size w (((((w.alloc (d cs.toArray 60)).alloc (d #[(.func (.func 162) #[] #[]),(.func (.func 164) #[] #[]),(.func (.func 165) #[] #[])] 259)).alloc (d #[(.func (.func 166) #[] #[]),(.func (.func 168) #[] #[]),.nilFunc] 264)).alloc (d #[(.func (.func 169) #[] #[]),(.func (.func 170) #[] #[]),(.func (.func 171) #[] #[])] 268)).alloc (d #[(.func (.func 172) #[] #[]),(.func (.func 173) #[] #[]),.nilFunc] 273)):=((((zaa w _).alloc (by simp) _).alloc (by simp <;> omega) _).alloc (by simp <;> omega) _).alloc (by simp <;> omega) _
 have q49:(((((w.alloc (d cs.toArray 60)).alloc (d #[(.func (.func 162) #[] #[]),(.func (.func 164) #[] #[]),(.func (.func 165) #[] #[])] 259)).alloc (d #[(.func (.func 166) #[] #[]),(.func (.func 168) #[] #[]),.nilFunc] 264)).alloc (d #[(.func (.func 169) #[] #[]),(.func (.func 170) #[] #[]),(.func (.func 171) #[] #[])] 268)).alloc (d #[(.func (.func 172) #[] #[]),(.func (.func 173) #[] #[]),.nilFunc] 273)).cell? ⟨w.heap.size,49,g⟩=some (f A1 x.r.rules.length k1):=by
  rw [cell?_alloc_old _ _ _ _ (by simp <;> omega),cell?_alloc_old _ _ _ _ (by simp <;> omega),cell?_alloc_old _ _ _ _ (by simp <;> omega),cell?_alloc_old _ _ _ _ (by simp)];exact zaI h49
 have q50:(((((w.alloc (d cs.toArray 60)).alloc (d #[(.func (.func 162) #[] #[]),(.func (.func 164) #[] #[]),(.func (.func 165) #[] #[])] 259)).alloc (d #[(.func (.func 166) #[] #[]),(.func (.func 168) #[] #[]),.nilFunc] 264)).alloc (d #[(.func (.func 169) #[] #[]),(.func (.func 170) #[] #[]),(.func (.func 171) #[] #[])] 268)).alloc (d #[(.func (.func 172) #[] #[]),(.func (.func 173) #[] #[]),.nilFunc] 273)).cell? ⟨w.heap.size,50,g⟩=some (f A2 x.r.sets.length k2):=by
  rw [cell?_alloc_old _ _ _ _ (by simp <;> omega),cell?_alloc_old _ _ _ _ (by simp <;> omega),cell?_alloc_old _ _ _ _ (by simp <;> omega),cell?_alloc_old _ _ _ _ (by simp)];exact zaI h50
 have q51:(((((w.alloc (d cs.toArray 60)).alloc (d #[(.func (.func 162) #[] #[]),(.func (.func 164) #[] #[]),(.func (.func 165) #[] #[])] 259)).alloc (d #[(.func (.func 166) #[] #[]),(.func (.func 168) #[] #[]),.nilFunc] 264)).alloc (d #[(.func (.func 169) #[] #[]),(.func (.func 170) #[] #[]),(.func (.func 171) #[] #[])] 268)).alloc (d #[(.func (.func 172) #[] #[]),(.func (.func 173) #[] #[]),.nilFunc] 273)).cell? ⟨w.heap.size,51,g⟩=some (f A3 x.pubs.length k3):=by
  rw [cell?_alloc_old _ _ _ _ (by simp <;> omega),cell?_alloc_old _ _ _ _ (by simp <;> omega),cell?_alloc_old _ _ _ _ (by simp <;> omega),cell?_alloc_old _ _ _ _ (by simp)];exact zaI h51
 have q52:(((((w.alloc (d cs.toArray 60)).alloc (d #[(.func (.func 162) #[] #[]),(.func (.func 164) #[] #[]),(.func (.func 165) #[] #[])] 259)).alloc (d #[(.func (.func 166) #[] #[]),(.func (.func 168) #[] #[]),.nilFunc] 264)).alloc (d #[(.func (.func 169) #[] #[]),(.func (.func 170) #[] #[]),(.func (.func 171) #[] #[])] 268)).alloc (d #[(.func (.func 172) #[] #[]),(.func (.func 173) #[] #[]),.nilFunc] 273)).cell? ⟨w.heap.size,52,g⟩=some (f A4 x.r.subs.length k4):=by
  rw [cell?_alloc_old _ _ _ _ (by simp <;> omega),cell?_alloc_old _ _ _ _ (by simp <;> omega),cell?_alloc_old _ _ _ _ (by simp <;> omega),cell?_alloc_old _ _ _ _ (by simp)];exact zaI h52
 have s0_0:(((((w.alloc (d cs.toArray 60)).alloc (d #[(.func (.func 162) #[] #[]),(.func (.func 164) #[] #[]),(.func (.func 165) #[] #[])] 259)).alloc (d #[(.func (.func 166) #[] #[]),(.func (.func 168) #[] #[]),.nilFunc] 264)).alloc (d #[(.func (.func 169) #[] #[]),(.func (.func 170) #[] #[]),(.func (.func 171) #[] #[])] 268)).alloc (d #[(.func (.func 172) #[] #[]),(.func (.func 173) #[] #[]),.nilFunc] 273)).cell? ⟨w.heap.size+1,0,g⟩=some (.func (.func 162) #[] #[]):=by
  rw [cell?_alloc_old _ _ _ _ (by simp <;> omega),cell?_alloc_old _ _ _ _ (by simp <;> omega),cell?_alloc_old _ _ _ _ (by simp)];rw [show w.heap.size+1=(w.alloc (d cs.toArray 60)).heap.size by simp];exact zaI (cs:=[(.func (.func 162) #[] #[]),(.func (.func 164) #[] #[]),(.func (.func 165) #[] #[])]) rfl
 have s0_1:(((((w.alloc (d cs.toArray 60)).alloc (d #[(.func (.func 162) #[] #[]),(.func (.func 164) #[] #[]),(.func (.func 165) #[] #[])] 259)).alloc (d #[(.func (.func 166) #[] #[]),(.func (.func 168) #[] #[]),.nilFunc] 264)).alloc (d #[(.func (.func 169) #[] #[]),(.func (.func 170) #[] #[]),(.func (.func 171) #[] #[])] 268)).alloc (d #[(.func (.func 172) #[] #[]),(.func (.func 173) #[] #[]),.nilFunc] 273)).cell? ⟨w.heap.size+1,1,g⟩=some (.func (.func 164) #[] #[]):=by
  rw [cell?_alloc_old _ _ _ _ (by simp <;> omega),cell?_alloc_old _ _ _ _ (by simp <;> omega),cell?_alloc_old _ _ _ _ (by simp)];rw [show w.heap.size+1=(w.alloc (d cs.toArray 60)).heap.size by simp];exact zaI (cs:=[(.func (.func 162) #[] #[]),(.func (.func 164) #[] #[]),(.func (.func 165) #[] #[])]) rfl
 have s0_2:(((((w.alloc (d cs.toArray 60)).alloc (d #[(.func (.func 162) #[] #[]),(.func (.func 164) #[] #[]),(.func (.func 165) #[] #[])] 259)).alloc (d #[(.func (.func 166) #[] #[]),(.func (.func 168) #[] #[]),.nilFunc] 264)).alloc (d #[(.func (.func 169) #[] #[]),(.func (.func 170) #[] #[]),(.func (.func 171) #[] #[])] 268)).alloc (d #[(.func (.func 172) #[] #[]),(.func (.func 173) #[] #[]),.nilFunc] 273)).cell? ⟨w.heap.size+1,2,g⟩=some (.func (.func 165) #[] #[]):=by
  rw [cell?_alloc_old _ _ _ _ (by simp <;> omega),cell?_alloc_old _ _ _ _ (by simp <;> omega),cell?_alloc_old _ _ _ _ (by simp)];rw [show w.heap.size+1=(w.alloc (d cs.toArray 60)).heap.size by simp];exact zaI (cs:=[(.func (.func 162) #[] #[]),(.func (.func 164) #[] #[]),(.func (.func 165) #[] #[])]) rfl
 have s1_0:(((((w.alloc (d cs.toArray 60)).alloc (d #[(.func (.func 162) #[] #[]),(.func (.func 164) #[] #[]),(.func (.func 165) #[] #[])] 259)).alloc (d #[(.func (.func 166) #[] #[]),(.func (.func 168) #[] #[]),.nilFunc] 264)).alloc (d #[(.func (.func 169) #[] #[]),(.func (.func 170) #[] #[]),(.func (.func 171) #[] #[])] 268)).alloc (d #[(.func (.func 172) #[] #[]),(.func (.func 173) #[] #[]),.nilFunc] 273)).cell? ⟨w.heap.size+1+1,0,g⟩=some (.func (.func 166) #[] #[]):=by
  rw [cell?_alloc_old _ _ _ _ (by simp <;> omega),cell?_alloc_old _ _ _ _ (by simp)];rw [show w.heap.size+1+1=((w.alloc (d cs.toArray 60)).alloc (d #[(.func (.func 162) #[] #[]),(.func (.func 164) #[] #[]),(.func (.func 165) #[] #[])] 259)).heap.size by simp];exact zaI (cs:=[(.func (.func 166) #[] #[]),(.func (.func 168) #[] #[]),.nilFunc]) rfl
 have s1_1:(((((w.alloc (d cs.toArray 60)).alloc (d #[(.func (.func 162) #[] #[]),(.func (.func 164) #[] #[]),(.func (.func 165) #[] #[])] 259)).alloc (d #[(.func (.func 166) #[] #[]),(.func (.func 168) #[] #[]),.nilFunc] 264)).alloc (d #[(.func (.func 169) #[] #[]),(.func (.func 170) #[] #[]),(.func (.func 171) #[] #[])] 268)).alloc (d #[(.func (.func 172) #[] #[]),(.func (.func 173) #[] #[]),.nilFunc] 273)).cell? ⟨w.heap.size+1+1,1,g⟩=some (.func (.func 168) #[] #[]):=by
  rw [cell?_alloc_old _ _ _ _ (by simp <;> omega),cell?_alloc_old _ _ _ _ (by simp)];rw [show w.heap.size+1+1=((w.alloc (d cs.toArray 60)).alloc (d #[(.func (.func 162) #[] #[]),(.func (.func 164) #[] #[]),(.func (.func 165) #[] #[])] 259)).heap.size by simp];exact zaI (cs:=[(.func (.func 166) #[] #[]),(.func (.func 168) #[] #[]),.nilFunc]) rfl
 have s1_2:(((((w.alloc (d cs.toArray 60)).alloc (d #[(.func (.func 162) #[] #[]),(.func (.func 164) #[] #[]),(.func (.func 165) #[] #[])] 259)).alloc (d #[(.func (.func 166) #[] #[]),(.func (.func 168) #[] #[]),.nilFunc] 264)).alloc (d #[(.func (.func 169) #[] #[]),(.func (.func 170) #[] #[]),(.func (.func 171) #[] #[])] 268)).alloc (d #[(.func (.func 172) #[] #[]),(.func (.func 173) #[] #[]),.nilFunc] 273)).cell? ⟨w.heap.size+1+1,2,g⟩=some .nilFunc:=by
  rw [cell?_alloc_old _ _ _ _ (by simp <;> omega),cell?_alloc_old _ _ _ _ (by simp)];rw [show w.heap.size+1+1=((w.alloc (d cs.toArray 60)).alloc (d #[(.func (.func 162) #[] #[]),(.func (.func 164) #[] #[]),(.func (.func 165) #[] #[])] 259)).heap.size by simp];exact zaI (cs:=[(.func (.func 166) #[] #[]),(.func (.func 168) #[] #[]),.nilFunc]) rfl
 have s2_0:(((((w.alloc (d cs.toArray 60)).alloc (d #[(.func (.func 162) #[] #[]),(.func (.func 164) #[] #[]),(.func (.func 165) #[] #[])] 259)).alloc (d #[(.func (.func 166) #[] #[]),(.func (.func 168) #[] #[]),.nilFunc] 264)).alloc (d #[(.func (.func 169) #[] #[]),(.func (.func 170) #[] #[]),(.func (.func 171) #[] #[])] 268)).alloc (d #[(.func (.func 172) #[] #[]),(.func (.func 173) #[] #[]),.nilFunc] 273)).cell? ⟨w.heap.size+1+1+1,0,g⟩=some (.func (.func 169) #[] #[]):=by
  rw [cell?_alloc_old _ _ _ _ (by simp)];rw [show w.heap.size+1+1+1=(((w.alloc (d cs.toArray 60)).alloc (d #[(.func (.func 162) #[] #[]),(.func (.func 164) #[] #[]),(.func (.func 165) #[] #[])] 259)).alloc (d #[(.func (.func 166) #[] #[]),(.func (.func 168) #[] #[]),.nilFunc] 264)).heap.size by simp];exact zaI (cs:=[(.func (.func 169) #[] #[]),(.func (.func 170) #[] #[]),(.func (.func 171) #[] #[])]) rfl
 have s2_1:(((((w.alloc (d cs.toArray 60)).alloc (d #[(.func (.func 162) #[] #[]),(.func (.func 164) #[] #[]),(.func (.func 165) #[] #[])] 259)).alloc (d #[(.func (.func 166) #[] #[]),(.func (.func 168) #[] #[]),.nilFunc] 264)).alloc (d #[(.func (.func 169) #[] #[]),(.func (.func 170) #[] #[]),(.func (.func 171) #[] #[])] 268)).alloc (d #[(.func (.func 172) #[] #[]),(.func (.func 173) #[] #[]),.nilFunc] 273)).cell? ⟨w.heap.size+1+1+1,1,g⟩=some (.func (.func 170) #[] #[]):=by
  rw [cell?_alloc_old _ _ _ _ (by simp)];rw [show w.heap.size+1+1+1=(((w.alloc (d cs.toArray 60)).alloc (d #[(.func (.func 162) #[] #[]),(.func (.func 164) #[] #[]),(.func (.func 165) #[] #[])] 259)).alloc (d #[(.func (.func 166) #[] #[]),(.func (.func 168) #[] #[]),.nilFunc] 264)).heap.size by simp];exact zaI (cs:=[(.func (.func 169) #[] #[]),(.func (.func 170) #[] #[]),(.func (.func 171) #[] #[])]) rfl
 have s2_2:(((((w.alloc (d cs.toArray 60)).alloc (d #[(.func (.func 162) #[] #[]),(.func (.func 164) #[] #[]),(.func (.func 165) #[] #[])] 259)).alloc (d #[(.func (.func 166) #[] #[]),(.func (.func 168) #[] #[]),.nilFunc] 264)).alloc (d #[(.func (.func 169) #[] #[]),(.func (.func 170) #[] #[]),(.func (.func 171) #[] #[])] 268)).alloc (d #[(.func (.func 172) #[] #[]),(.func (.func 173) #[] #[]),.nilFunc] 273)).cell? ⟨w.heap.size+1+1+1,2,g⟩=some (.func (.func 171) #[] #[]):=by
  rw [cell?_alloc_old _ _ _ _ (by simp)];rw [show w.heap.size+1+1+1=(((w.alloc (d cs.toArray 60)).alloc (d #[(.func (.func 162) #[] #[]),(.func (.func 164) #[] #[]),(.func (.func 165) #[] #[])] 259)).alloc (d #[(.func (.func 166) #[] #[]),(.func (.func 168) #[] #[]),.nilFunc] 264)).heap.size by simp];exact zaI (cs:=[(.func (.func 169) #[] #[]),(.func (.func 170) #[] #[]),(.func (.func 171) #[] #[])]) rfl
 have s3_0:(((((w.alloc (d cs.toArray 60)).alloc (d #[(.func (.func 162) #[] #[]),(.func (.func 164) #[] #[]),(.func (.func 165) #[] #[])] 259)).alloc (d #[(.func (.func 166) #[] #[]),(.func (.func 168) #[] #[]),.nilFunc] 264)).alloc (d #[(.func (.func 169) #[] #[]),(.func (.func 170) #[] #[]),(.func (.func 171) #[] #[])] 268)).alloc (d #[(.func (.func 172) #[] #[]),(.func (.func 173) #[] #[]),.nilFunc] 273)).cell? ⟨w.heap.size+1+1+1+1,0,g⟩=some (.func (.func 172) #[] #[]):=by
  rw [show w.heap.size+1+1+1+1=((((w.alloc (d cs.toArray 60)).alloc (d #[(.func (.func 162) #[] #[]),(.func (.func 164) #[] #[]),(.func (.func 165) #[] #[])] 259)).alloc (d #[(.func (.func 166) #[] #[]),(.func (.func 168) #[] #[]),.nilFunc] 264)).alloc (d #[(.func (.func 169) #[] #[]),(.func (.func 170) #[] #[]),(.func (.func 171) #[] #[])] 268)).heap.size by simp];exact zaI (cs:=[(.func (.func 172) #[] #[]),(.func (.func 173) #[] #[]),.nilFunc]) rfl
 have s3_1:(((((w.alloc (d cs.toArray 60)).alloc (d #[(.func (.func 162) #[] #[]),(.func (.func 164) #[] #[]),(.func (.func 165) #[] #[])] 259)).alloc (d #[(.func (.func 166) #[] #[]),(.func (.func 168) #[] #[]),.nilFunc] 264)).alloc (d #[(.func (.func 169) #[] #[]),(.func (.func 170) #[] #[]),(.func (.func 171) #[] #[])] 268)).alloc (d #[(.func (.func 172) #[] #[]),(.func (.func 173) #[] #[]),.nilFunc] 273)).cell? ⟨w.heap.size+1+1+1+1,1,g⟩=some (.func (.func 173) #[] #[]):=by
  rw [show w.heap.size+1+1+1+1=((((w.alloc (d cs.toArray 60)).alloc (d #[(.func (.func 162) #[] #[]),(.func (.func 164) #[] #[]),(.func (.func 165) #[] #[])] 259)).alloc (d #[(.func (.func 166) #[] #[]),(.func (.func 168) #[] #[]),.nilFunc] 264)).alloc (d #[(.func (.func 169) #[] #[]),(.func (.func 170) #[] #[]),(.func (.func 171) #[] #[])] 268)).heap.size by simp];exact zaI (cs:=[(.func (.func 172) #[] #[]),(.func (.func 173) #[] #[]),.nilFunc]) rfl
 have s3_2:(((((w.alloc (d cs.toArray 60)).alloc (d #[(.func (.func 162) #[] #[]),(.func (.func 164) #[] #[]),(.func (.func 165) #[] #[])] 259)).alloc (d #[(.func (.func 166) #[] #[]),(.func (.func 168) #[] #[]),.nilFunc] 264)).alloc (d #[(.func (.func 169) #[] #[]),(.func (.func 170) #[] #[]),(.func (.func 171) #[] #[])] 268)).alloc (d #[(.func (.func 172) #[] #[]),(.func (.func 173) #[] #[]),.nilFunc] 273)).cell? ⟨w.heap.size+1+1+1+1,2,g⟩=some .nilFunc:=by
  rw [show w.heap.size+1+1+1+1=((((w.alloc (d cs.toArray 60)).alloc (d #[(.func (.func 162) #[] #[]),(.func (.func 164) #[] #[]),(.func (.func 165) #[] #[])] 259)).alloc (d #[(.func (.func 166) #[] #[]),(.func (.func 168) #[] #[]),.nilFunc] 264)).alloc (d #[(.func (.func 169) #[] #[]),(.func (.func 170) #[] #[]),(.func (.func 171) #[] #[])] 268)).heap.size by simp];exact zaI (cs:=[(.func (.func 172) #[] #[]),(.func (.func 173) #[] #[]),.nilFunc]) rfl
 have hg0:w.heap.size<(((((w.alloc (d cs.toArray 60)).alloc (d #[(.func (.func 162) #[] #[]),(.func (.func 164) #[] #[]),(.func (.func 165) #[] #[])] 259)).alloc (d #[(.func (.func 166) #[] #[]),(.func (.func 168) #[] #[]),.nilFunc] 264)).alloc (d #[(.func (.func 169) #[] #[]),(.func (.func 170) #[] #[]),(.func (.func 171) #[] #[])] 268)).alloc (d #[(.func (.func 172) #[] #[]),(.func (.func 173) #[] #[]),.nilFunc] 273)).heap.size:=by simp <;> omega
 have hg1:w.heap.size+1<(((((w.alloc (d cs.toArray 60)).alloc (d #[(.func (.func 162) #[] #[]),(.func (.func 164) #[] #[]),(.func (.func 165) #[] #[])] 259)).alloc (d #[(.func (.func 166) #[] #[]),(.func (.func 168) #[] #[]),.nilFunc] 264)).alloc (d #[(.func (.func 169) #[] #[]),(.func (.func 170) #[] #[]),(.func (.func 171) #[] #[])] 268)).alloc (d #[(.func (.func 172) #[] #[]),(.func (.func 173) #[] #[]),.nilFunc] 273)).heap.size:=by simp <;> omega
 have hg2:w.heap.size+1+1<(((((w.alloc (d cs.toArray 60)).alloc (d #[(.func (.func 162) #[] #[]),(.func (.func 164) #[] #[]),(.func (.func 165) #[] #[])] 259)).alloc (d #[(.func (.func 166) #[] #[]),(.func (.func 168) #[] #[]),.nilFunc] 264)).alloc (d #[(.func (.func 169) #[] #[]),(.func (.func 170) #[] #[]),(.func (.func 171) #[] #[])] 268)).alloc (d #[(.func (.func 172) #[] #[]),(.func (.func 173) #[] #[]),.nilFunc] 273)).heap.size:=by simp <;> omega
 have hg3:w.heap.size+1+1+1<(((((w.alloc (d cs.toArray 60)).alloc (d #[(.func (.func 162) #[] #[]),(.func (.func 164) #[] #[]),(.func (.func 165) #[] #[])] 259)).alloc (d #[(.func (.func 166) #[] #[]),(.func (.func 168) #[] #[]),.nilFunc] 264)).alloc (d #[(.func (.func 169) #[] #[]),(.func (.func 170) #[] #[]),(.func (.func 171) #[] #[])] 268)).alloc (d #[(.func (.func 172) #[] #[]),(.func (.func 173) #[] #[]),.nilFunc] 273)).heap.size:=by simp <;> omega
 have hg4:w.heap.size+1+1+1+1<(((((w.alloc (d cs.toArray 60)).alloc (d #[(.func (.func 162) #[] #[]),(.func (.func 164) #[] #[]),(.func (.func 165) #[] #[])] 259)).alloc (d #[(.func (.func 166) #[] #[]),(.func (.func 168) #[] #[]),.nilFunc] 264)).alloc (d #[(.func (.func 169) #[] #[]),(.func (.func 170) #[] #[]),(.func (.func 171) #[] #[])] 268)).alloc (d #[(.func (.func 172) #[] #[]),(.func (.func 173) #[] #[]),.nilFunc] 273)).heap.size:=by simp
 have R1':=Hd (R1.mono RuleC.mono (m _) (hb.mono hB));have R2':=Hd (R2.mono SetC.mono (m _) (hb.mono hB));have R3':=Hd (R3.mono PubNC.mono (m _) (hb.mono hB));have R4':=Hd (R4.mono SubC.mono (m _) (hb.mono hB));have HL:=Hd hl;have HRU:=Hd hru;have HU5:=Hd u5;have HB:=Hd hb;have hBW:B≤(((((w.alloc (d cs.toArray 60)).alloc (d #[(.func (.func 162) #[] #[]),(.func (.func 164) #[] #[]),(.func (.func 165) #[] #[])] 259)).alloc (d #[(.func (.func 166) #[] #[]),(.func (.func 168) #[] #[]),.nilFunc] 264)).alloc (d #[(.func (.func 169) #[] #[]),(.func (.func 170) #[] #[]),(.func (.func 171) #[] #[])] 268)).alloc (d #[(.func (.func 172) #[] #[]),(.func (.func 173) #[] #[]),.nilFunc] 273)).heap.size:=by have:=hb.size;omega
 clear h h49 h50 h51 h52 R1 R2 R3 R4 u5 hl hru hb u3;go_enter Tryz.func142,Tryz.ntmps142;go_wp2_with fail
 generalize ((((w.alloc (d cs.toArray 60)).alloc (d #[(.func (.func 162) #[] #[]),(.func (.func 164) #[] #[]),(.func (.func 165) #[] #[])] 259)).alloc (d #[(.func (.func 166) #[] #[]),(.func (.func 168) #[] #[]),.nilFunc] 264)).alloc (d #[(.func (.func 169) #[] #[]),(.func (.func 170) #[] #[]),(.func (.func 171) #[] #[])] 268)).alloc (d #[(.func (.func 172) #[] #[]),(.func (.func 173) #[] #[]),.nilFunc] 273)=W4 at *
 (with_reducible refine (zgv A1 k1 B x.r.rules W4 hBW (R1'.out) (by omega) HRU.out).mono ?_)
 rintro e v1 ⟨rfl,hb1⟩
 have J1:=Hd hb1;have hg0_1:=l hg0 hb1.size;have hg2_1:=l hg2 hb1.size;have hg3_1:=l hg3 hb1.size;have hg4_1:=l hg4 hb1.size;obtain ⟨q50_v1,q51_v1,q52_v1⟩:=kb3 hb1 hg0 ⟨q50,q51,q52⟩;obtain ⟨s1_0_v1,s1_1_v1,s1_2_v1⟩:=kb3 hb1 hg2 ⟨s1_0,s1_1,s1_2⟩;obtain ⟨s2_0_v1,s2_1_v1,s2_2_v1⟩:=kb3 hb1 hg3 ⟨s2_0,s2_1,s2_2⟩;obtain ⟨s3_0_v1,s3_1_v1,s3_2_v1⟩:=kb3 hb1 hg4 ⟨s3_0,s3_1,s3_2⟩;clear hb1 q49 q50 q51 q52 s0_0 s0_1 s0_2 s1_0 s1_1 s1_2 s2_0 s2_1 s2_2 s3_0 s3_1 s3_2;go_wp2_with fail
 (with_reducible refine (zhp A2 k2 B x.r.sets v1 (v hBW J1.out.size) (R2'.out.mono SetC.mono (m _) (J1.out.mono hBW)) (by omega) HL.out.sets (fun k y hy=>by have:=(HU5.out k y hy).2;omega)).mono ?_)
 rintro e v2 ⟨rfl,hb2⟩
 have J2:=Hd (Below.then J1.out hb2);have hg0_2:=l hg0_1 hb2.size;have hg3_2:=l hg3_1 hb2.size;have hg4_2:=l hg4_1 hb2.size;have q51_v2:=(hb2.cell (p:=⟨w.heap.size,51,g⟩) hg0_1).trans q51_v1;have q52_v2:=(hb2.cell (p:=⟨w.heap.size,52,g⟩) hg0_1).trans q52_v1;obtain ⟨s2_0_v2,s2_1_v2,s2_2_v2⟩:=kb3 hb2 hg3_1 ⟨s2_0_v1,s2_1_v1,s2_2_v1⟩;obtain ⟨s3_0_v2,s3_1_v2,s3_2_v2⟩:=kb3 hb2 hg4_1 ⟨s3_0_v1,s3_1_v1,s3_2_v1⟩;clear hb2 q50_v1 q51_v1 q52_v1 s1_0_v1 s1_1_v1 s1_2_v1 s2_0_v1 s2_1_v1 s2_2_v1 s3_0_v1 s3_1_v1 s3_2_v1;go_wp2_with fail
 (with_reducible refine (zho A3 k3 B x.pubs v2 (v hBW J2.out.size) (R3'.out.mono PubNC.mono (m _) (J2.out.mono hBW)) (by omega) HL.out.pubs).mono ?_)
 rintro e v3 ⟨rfl,hb3⟩
 have J3:=Hd (Below.then J2.out hb3);have hg0_3:=l hg0_2 hb3.size;have hg4_3:=l hg4_2 hb3.size;have q52_v3:=(hb3.cell (p:=⟨w.heap.size,52,g⟩) hg0_2).trans q52_v2;obtain ⟨s3_0_v3,s3_1_v3,s3_2_v3⟩:=kb3 hb3 hg4_2 ⟨s3_0_v2,s3_1_v2,s3_2_v2⟩;clear hb3 q51_v2 q52_v2 s2_0_v2 s2_1_v2 s2_2_v2 s3_0_v2 s3_1_v2 s3_2_v2;go_wp2_with fail
 (with_reducible refine (zhq A4 k4 B x.r.subs v3 (v hBW J3.out.size) (R4'.out.mono SubC.mono (m _) (J3.out.mono hBW)) (by omega) HL.out.subs).mono ?_)
 rintro e v4 ⟨rfl,hb4⟩
 have J4:=Hd (Below.then J3.out hb4);clear hb4;go_wp2;go_ret
 exact ⟨rfl,Below.then HB.out J4.out⟩
def RetAdd (c mn mb:Nat) (p:StAt) (S:StatM) (L:List ByteArray) (n:Nat) (bs:List Int) (w:World) (e:Ending) (w':World):Prop:=
 e = .returned (.int .i64 0)∧ChkS w' c mn mb p S L n bs∧Below mn w w'
attribute [local go_sem ↓] zav zaw
attribute [local go_sem] zay zaz
theorem add_ok (c mn mb N:Nat) (p:StAt) (S:StatM) (xs:List RelayX) (L:List ByteArray) (bs:List Int) (B i:Nat) (cs:List Value) (x:RelayX) (w:World) (hmc:mn<mb∧mb<c)
 (hB:B≤mn) (h:ChkS w c mn mb p S L N bs) (hS:Rws BayC 12 w B p.A4 S.bays.length S.bays) (h4:S.bays.length≤16) (hx:RelayXC w B cs x) (hF:RelF S xs i x)
 (hL:L[N]? = some x.r.name) (hsn:seen L N x.r.name=false) (hN:N≤1000) (hbn:bs.length≤1000) (hbs:x.n.bay ∉ bs) :
 Calls Tryz.prog 102 #[.pointer (some ⟨c,0,g⟩),.agg cs.toArray] w (RetAdd c mn mb p S L (N+1) (bs++[x.n.bay]) w):=by
 obtain ⟨c49,c50,c51,c52,hcs⟩:=hx.cells;have hlen:=hx.base.len;have hb:=zaa w (d cs.toArray 60);have q0:=rq w hcs 0 rfl;have q2:=rq w hcs 2 rfl;have hr0:zbG (w.alloc (d cs.toArray 60)) w.heap.size 0 53=some cs:=zbs (zck w cs 60) hlen;have hg:w.heap.size<(w.alloc (d cs.toArray 60)).heap.size:=by simp
 have hcl:=h.lt;have hsz:x.r.name.size≤maxLen:=by have:=hF.name.len;unfold maxLen;omega
 have h1:=h.below hb hcl h.map.block h.bays.block;have HX1:=Hd (RelayXC.mono _ _ _ _ _ _ (m _) (hb.mono (show B≤w.heap.size by have:=h.map.block;omega)) hx);have HS1:=Hd (hS.mono BayC.mono (m _) (hb.mono (show B≤w.heap.size by have:=h.map.block;omega)));have hBw:B≤(w.alloc (d cs.toArray 60)).heap.size:=by have:=h.map.block;have:=hb.size;omega
 have hlk:∀ q:Nat,(Instr.lookup 233 (.map (some mn)) (u x.r.name) false).run Tryz.prog ((w.alloc (d cs.toArray 60)).drewN q) = .ok (.bool false) ((w.alloc (d cs.toArray 60)).drewN q):=by
  intro q;have:=(h1.map.kept (w':=(w.alloc (d cs.toArray 60)).drewN q) rfl).look (t := 233) Tryz.underlying9 Tryz.underlying233 (zbQ _) hsz false;rw [zc4,hsn] at this;exact this
 obtain ⟨-,d5,d6⟩:=h1.cells;have H1:=Hd h1;have HF:=Hd hF;have HL:=Hd hL;have HBS:=Hd hbs;have HCS:=Hd hcs;have HB:=Hd hb;have hmw:=h.map.block;have gc1:=h1.lt;clear h h1 hS hx hF hL hsn hbs hcs hb hlen
 have HK:=Hd (show x.r.kind=1∨x.r.kind=2∨x.r.kind=3∨x.r.kind=4 by
  rcases HF.out.place.1 with ⟨a,-⟩ | ⟨a,-⟩ <;> omega)
 go_enter Tryz.func102,Tryz.ntmps102;go_wp2_with fail
 generalize w.alloc (d cs.toArray 60)=W0 at *;refine (zdp x.r.name _ HF.out.name).mono ?_
 rintro e w1 ⟨rfl,rfl⟩
 go_wp2;have hlk0:=hlk 0
 go_quiet (fail)
 clear hlk hlk0;generalize hWq:W0.drewN _=Wq;have hq:Below W0.heap.size W0 Wq:=by rw [← hWq];exact zag (Below.refl _ _) _
 have q0':=(hq.cell (p:=⟨w.heap.size,0,g⟩) hg).trans q0;have q2':=(hq.cell (p:=⟨w.heap.size,2,g⟩) hg).trans q2;have r0':=zal hr0 hq hg;have g':w.heap.size<Wq.heap.size:=l hg hq.size;have h2:=H1.out.below hq gc1 H1.out.map.block H1.out.bays.block;have hS2:=HS1.out.mono BayC.mono (m _) (hq.mono hBw);have HX2:=Hd (RelayXC.mono _ _ _ _ _ _ (m _) (hq.mono hBw) HX1.out);have HPL:=Hd (zlm c mn mb N p S L bs B x.r.name x.r.kind x.n c49 c50 c51 c52 cs HCS.out Wq (v hBw hq.size) h2 hS2 h4 HF.out.place.1 HBS.out);have H2:=Hd h2;have HQ:=Hd hq;clear hWq hq q0 q2 hr0 h2 hS2 d5 d6;go_wp2_with fail
 refine HPL.out.mono ?_
 rintro e u0 ⟨rfl,j0⟩
 have r1:=zal r0' j0 g';have g1:=l g' j0.size;clear r0';go_wp2_with fail
 refine (zhD x.r.name x.r.kind x.n c49 c50 c51 c52 cs HCS.out HK.out HF.out.foreign _).mono ?_
 rintro e u1 ⟨rfl,j1⟩
 have r2:=zal r1 j1 g1;have g2:=l g1 j1.size;clear r1
 go_wp2_with (first
  | (go_at_call 136;refine (zdN x.r.name x.r.kind x.n c49 c50 c51 c52 cs HCS.out HF.out.numbers.zones _).mono ?_;rintro e u2 ⟨rfl,j2⟩;have r3:=zal r2 j2 g2;have g3:=l g2 j2.size)
  | (go_at_call 137;refine (zeH x.r.name x.r.kind x.n c49 c50 c51 c52 cs HCS.out HF.out.numbers _).mono ?_;rintro e u3 ⟨rfl,j3⟩;have r4:=zal r3 j3 g3;have g4:=l g3 j3.size)
  | (go_at_call 138;refine (zd4 x.r.name x.r.kind x.n c49 c50 c51 c52 cs HCS.out HF.out.numbers _).mono ?_;rintro e u4 ⟨rfl,j4⟩;have r5:=zal r4 j4 g4;have g5:=l g4 j4.size)
  | (go_at_call 139;refine (zeV x.r.name x.r.kind x.n c49 c50 c51 c52 cs HCS.out HF.out.numbers _).mono ?_;rintro e u5 ⟨rfl,j5⟩;have r6:=zal r5 j5 g5;have g6:=l g5 j5.size))
 have b5:=Below.then (Below.then (Below.then (Below.then (Below.then j0 j1) j2) j3) j4) j5
 clear r2 r3 r4 r5 j0 j1 j2 j3 j4 j5;refine (ze2 x.r.name x.r.kind x.n c49 c50 c51 c52 cs HCS.out HF.out.scheme _).mono ?_
 rintro e u6 ⟨rfl,j6⟩
 have r7:=zal r6 j6 g6;have g7:=l g6 j6.size;have b6:=Below.then b5 j6
 have hBq:B≤Wq.heap.size:=v hBw HQ.out.size;clear r6 b5 j6;go_wp2_with fail
 refine (zjD cs x B u6 (v hBq b6.size) (RelayXC.mono _ _ _ _ _ _ (m _) (b6.mono hBq) HX2.out) HF.out.count).mono ?_
 rintro e u7 ⟨rfl,j7⟩
 have r8:=zal r7 j7 g7;have g8:=l g7 j7.size;have b7:=Below.then b6 j7
 clear r7 b6 j7;go_wp2_with fail
 refine (zlc cs x B u7 (v hBq b7.size) (RelayXC.mono _ _ _ _ _ _ (m _) (b7.mono hBq) HX2.out) HF.out.count HF.out.rules HF.out.lists).mono ?_
 rintro e u8 ⟨rfl,j8⟩
 have b8:=Below.then b7 j8
 have g9:=l g8 j8.size;have e0:=(b8.cell (p:=⟨w.heap.size,0,g⟩) g').trans q0';have e2:=(b8.cell (p:=⟨w.heap.size,2,g⟩) g').trans q2';have h8:=H2.out.below b8 H2.out.lt H2.out.map.block H2.out.bays.block;have H8:=Hd h8;have hl8:=h8.lt;have hm8:=h8.map.block;obtain ⟨-,d5,d6⟩:=h8.cells;obtain ⟨w9,hup,hm9,hg9⟩:=h8.drew.map.store (t := 233) Tryz.underlying9 Tryz.underlying233 (by unfold maxLen;omega) hsz (plainElem_bool Tryz.underlying4 true);have HM9:=Hd hm9;have HG9:=Hd hg9;have B8:=Hd b8;clear r8 b7 j8 b8 h8 hm9 hg9 q0' q2';go_wp2;go_region
 clear hup d5 d6;have h9:=H8.out.drew.put HL.out HM9.out HG9.out;have HH9:=Hd h9;have hl9:=h9.lt;have hb9:=h9.bays.block;have k0:=(World.cell?_of_block (a:=⟨w.heap.size,0,g⟩) (HG9.out.block w.heap.size g9 (fun q=>by injection q;omega))).trans e0;have k2:=(World.cell?_of_block (a:=⟨w.heap.size,2,g⟩) (HG9.out.block w.heap.size g9 (fun q=>by injection q;omega))).trans e2;have g10:w.heap.size<w9.heap.size:=l g9 HG9.out.size;obtain ⟨-,d5,d6⟩:=h9.cells
 have hbr : -1≤x.n.bay∧x.n.bay≤1000:=by
  rcases HF.out.place.1 with ⟨-,a⟩ | ⟨-,a,b,hb,-⟩
  · omega
  · have:=(List.getElem?_eq_some_iff.1 hb).1;omega
 obtain ⟨w10,hup,hm10,hg10⟩:=h9.drew.bays.store (t := 236) (Maps.int_keyed Tryz.underlying3) Tryz.underlying236 (by unfold maxLen;omega) (Maps.keyOf_int_mk Tryz.underlying3 (WalkArith.wf_i64 (n:=x.n.bay) (by omega))) (zh3 HBS.out) (plainElem_bool Tryz.underlying4 true);have HM10:=Hd hm10;have HG10:=Hd hg10;clear e0 e2 h9 hm10 hg10 hbr;go_wp2;go_region
 go_wp2;go_ret
 refine ⟨rfl,HH9.out.drew.putBay HM10.out HG10.out,?_⟩
 have z1:=(HB.out.mono (z hmw)).trans (HQ.out.mono (by have:=HB.out.size;omega));have z2:=z1.trans (B8.out.mono (by have:=z1.size;omega));have z3:=z2.drew.trans (zaO HG9.out (by show mn≤_;simp;omega));exact z3.drew.trans ((zaO HG10.out (z hb9)).mono (by omega))
def ChR (c mn mb:Nat) (p:StAt) (S:StatM) (xs:List RelayX) (W1:World) (i:Value) (wr:World):Prop:=
 ∃ k:Nat,k≤xs.length∧i = .int .i64 k∧ChkS wr c mn mb p S (S.names++xs.map (·.r.name)) (S.names.length+k) ((xs.take k).map (·.n.bay))∧Below mn W1 wr
theorem zkn {xs ys:List ByteArray} {i:Nat} {s:ByteArray} (h1:seen xs xs.length s=false) (h2:seen ys i s=false):seen (xs++ys) (xs.length+i) s=false:=by
 unfold seen at *;rw [List.take_length] at h1;rw [List.take_append,List.take_of_length_le (by omega),Nat.add_sub_cancel_left,List.any_append,h1,h2]
 rfl
theorem ziw {xs:List RelayX} {k:Nat} {x:RelayX} (h:∀ (j:Nat) (y:RelayX),j<k→xs[j]? = some y→y.n.bay≠x.n.bay):x.n.bay ∉ (xs.take k).map (·.n.bay):=by
 intro hm;obtain ⟨y,hy,e⟩:=List.mem_map.1 hm;obtain ⟨j,hj⟩:=List.getElem?_of_mem hy
 have hjk:j<k:=by
  have:=(List.getElem?_eq_some_iff.1 hj).1;rw [List.length_take] at this;omega
 rw [List.getElem?_take_of_lt hjk] at hj;exact h j y hjk hj e
theorem zeI (B:Nat) (p:StAt) (S:StatM) (A:Option Addr) (cc:Nat) (xs:List RelayX) (w:World) (hB:B≤w.heap.size) (h:ConfX w B p S A cc xs) (hF:StF S) (hR:zkR S xs) (hn:xs.length≤20) :
 Calls Tryz.prog 69 #[.agg #[u S.name,f p.A1 S.buses.length p.c1,f p.A2 S.lines.length p.c2,f p.A3 S.sources.length p.c3,f p.A4 S.bays.length p.c4],f A xs.length cc] w (zgf (0,0) w):=by
 have hb:=zaa w (d #[u S.name,f p.A1 S.buses.length p.c1,f p.A2 S.lines.length p.c2,f p.A3 S.sources.length p.c3,f p.A4 S.bays.length p.c4] 27);have c0:(w.alloc (d #[u S.name,f p.A1 S.buses.length p.c1,f p.A2 S.lines.length p.c2,f p.A3 S.sources.length p.c3,f p.A4 S.bays.length p.c4] 27)).cell? ⟨w.heap.size,0,g⟩=some (u S.name):=by simp
 have c1:(w.alloc (d #[u S.name,f p.A1 S.buses.length p.c1,f p.A2 S.lines.length p.c2,f p.A3 S.sources.length p.c3,f p.A4 S.bays.length p.c4] 27)).cell? ⟨w.heap.size,1,g⟩=some (f p.A1 S.buses.length p.c1):=by simp
 have c2:(w.alloc (d #[u S.name,f p.A1 S.buses.length p.c1,f p.A2 S.lines.length p.c2,f p.A3 S.sources.length p.c3,f p.A4 S.bays.length p.c4] 27)).cell? ⟨w.heap.size,2,g⟩=some (f p.A2 S.lines.length p.c2):=by simp
 have c3:(w.alloc (d #[u S.name,f p.A1 S.buses.length p.c1,f p.A2 S.lines.length p.c2,f p.A3 S.sources.length p.c3,f p.A4 S.bays.length p.c4] 27)).cell? ⟨w.heap.size,3,g⟩=some (f p.A3 S.sources.length p.c3):=by simp
 have c4:(w.alloc (d #[u S.name,f p.A1 S.buses.length p.c1,f p.A2 S.lines.length p.c2,f p.A3 S.sources.length p.c3,f p.A4 S.bays.length p.c4] 27)).cell? ⟨w.heap.size,4,g⟩=some (f p.A4 S.bays.length p.c4):=by simp
 have hg:w.heap.size<(w.alloc (d #[u S.name,f p.A1 S.buses.length p.c1,f p.A2 S.lines.length p.c2,f p.A3 S.sources.length p.c3,f p.A4 S.bays.length p.c4] 27)).heap.size:=by simp
 have hn4:=hF.n4;have hnl:S.names.length≤30:=by rw [zbv];have:=hF.n1.2;have:=hF.n2;have:=hF.n3;omega
 have H:=Hd h;have HF:=Hd hF;have HR:=Hd hR;clear h hF hR;go_enter Tryz.func69,Tryz.ntmps69;go_wp2_with fail
 generalize (w.alloc (d #[u S.name,f p.A1 S.buses.length p.c1,f p.A2 S.lines.length p.c2,f p.A3 S.sources.length p.c3,f p.A4 S.bays.length p.c4] 27))=W at *;have hBW:B≤W.heap.size:=v hB hb.size;refine (zcl B p S _ hBW (H.out.st.mono (m _) (hb.mono hB)) HF.out).mono ?_
 rintro e w1 ⟨rfl,j1⟩
 obtain ⟨d0,d1,d2,d3,d4⟩:=kb5 j1 hg ⟨c0,c1,c2,c3,c4⟩;have b1:=Below.then hb j1
 clear c0 c1 c2 c3 c4 j1;go_wp2_with fail
 refine (zfH B p S (S.names++xs.map (·.r.name)) _ (v hB b1.size) (H.out.st.mono (m _) (b1.mono hB)) HF.out (fun k x hx=>by rw [List.getElem?_append_left (List.getElem?_eq_some_iff.1 hx).1];exact hx)).mono ?_
 rintro e w2 ⟨c,mn,mb,rfl,m1,m2,m3,hch,j2⟩
 have b2:=Below.then b1 j2
 have HCH:=Hd hch;have hs1:=b1.size;have hmw:w.heap.size≤mn:=by omega
 have hBm:B≤mn:=by omega
 have hs2:=b2.size;have HB2:=Hd b2;clear b1 j2 hch b2 d0 d1 d2 d3 d4 m1;go_wp2
 go_loopw [17] (ChR c mn mb p S xs w2) (fun i _=>xs.length-(intOf i).toNat)
 case atStart=>exact ⟨0,Nat.zero_le _,rfl,HCH.out,Below.refl _ _⟩
 case round =>
  obtain ⟨k,hk,rfl,hch,hbel⟩:=hrel;have hwb:=HB2.out.trans (hbel.mono hmw);have hsz:=hwb.size;have gc:=hch.lt;have gn:=hch.map.block;have gb:=hch.bays.block
  by_cases hlt:k<xs.length
  · obtain ⟨b,o,cs,x,rfl,hbB,hx,hlen,hR,hat⟩:=(H.out.rows.mono RelayXC.mono (m _) (hwb.mono hB)).at_ hlt
    have hrow:=zbs hat hlen
    have hone:=hR.base.one
    have hbx:zdi 53 cs:=⟨hlen,hone⟩
    have hbw:b<wr.heap.size:=by omega
    have hb1:=zaa wr (d cs.toArray 60)
    have hrowN:=zcB wr cs 60 wr.heap.size 53 rfl hbx
    have F:=HR.out k x hx
    have hBr:B≤wr.heap.size:=by omega
    have HC:=Hd (add_ok c mn mb (S.names.length+k) p S xs (S.names++xs.map (·.r.name)) ((xs.take k).map (·.n.bay)) B k cs x (wr.alloc (d cs.toArray 60)) ⟨m2,m3⟩ hBm (hch.below hb1 gc gn gb)
     (H.out.st.bays.mono BayC.mono (m _) ((hwb.mono hB).trans (hb1.mono hBr))) hn4 (RelayXC.mono _ _ _ _ _ _ (m _) (hb1.mono hBr) hR) F
     (by rw [List.getElem?_append_right (by omega),Nat.add_sub_cancel_left,List.getElem?_map,hx];rfl) (zkn F.free F.apart) (by omega) (by simp <;> omega) (ziw F.place.2))
    have HX:=Hd hx
    have HB1:=Hd hb1
    have HBEL:=Hd hbel
    have HBX:=Hd hbx
    clear hx hR hat hone F hb1 hbel hwb hch hlen
    go_wp2_with fail
    refine HC.out.mono ?_
    rintro e w3 ⟨rfl,h3,j3⟩
    have H3:=Hd h3
    have J3:=Hd j3
    clear h3 j3 hrow hrowN
    go_wp2
    go_roundw
    case rel =>
     refine ⟨k+1,by omega,by go_num,?_,(HBEL.out.trans (HB1.out.mono (z gn))).trans J3.out⟩
     have e:(xs.take (k+1)).map (·.n.bay)=(xs.take k).map (·.n.bay)++[x.n.bay]:=by rw [List.take_add_one,HX.out];simp
     rw [e]
     exact H3.out
    case measure=>simp [intOf];omega
  · go_wp2
    go_ret2
    exact ⟨rfl,hwb⟩
end Go.Proofs.YtjkimieapfbhbaaGreatDoor
