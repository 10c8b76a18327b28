/-
  The reference's Verify.
-/
import Derived.Test.YtcikenlflcofbaaGreatDoorRWa
import Derived.Test.YtcikenlflcofbaaGreatDoorVfJ
import Derived.Deep.RegionLaw
import Derived.Deep.DeepCutAuto
namespace Go.Proofs.YtcikenlflcofbaaGreatDoor
open Go.RowKit

theorem rw_take7 {α : Type} {R : World → (Nat → Prop) → List Value → α → Prop} {size n : Nat} {w : World} {S : Nat → Prop} {A : Option Addr} {l : List α} (h : Rw R size w S A n l) {k : Nat} (hk : k ≤ n) : Rw R size w S A k (l.take k) := by
  refine ⟨by rw [List.length_take, h.1]; omega, fun hp => ?_⟩
  obtain ⟨b, o, e, hb, hr⟩ := h.2 (by omega)
  refine ⟨b, o, e, hb, fun i x hx => ?_⟩
  rw [List.getElem?_take] at hx
  split at hx
  · exact hr i x hx
  · cases hx
def RetVf (p : Pg) (w : World) (e : Ending) (w' : World) : Prop := e = .returned (.tuple #[.int .i64 (verP p).1, .int .i64 (verP p).2.2]) ∧ Below w.heap.size w w'
theorem RetVf.hdr {p : Pg} {w w' : World} {er : Int} (h : hdrP p = er) (he : er ≠ 0) (hb : Below w.heap.size w w') : RetVf p w (.returned (.tuple #[.int .i64 0, .int .i64 er])) w' := by
  subst h
  exact ⟨by unfold verP; rw [if_pos he], hb⟩
def NmL (W : World) (l : List (List UInt8)) (g : Nat) (v : Value) (wr : World) : Prop :=
  ∃ k : Nat, k ≤ l.length ∧ l.length - k < g ∧ v = .int .i64 (k : Int) ∧ (l.drop k).all nameB = l.all nameB ∧ Below W.heap.size W wr
def NsR (W1 : World) (p : Pg) (v4 : Value) (wc : World) : Prop :=
  ∃ A c, v4 = .slice A (namesP p).length c ∧ (namesP p).length ≤ c ∧ c ≤ maxLen ∧ Rw NmC 1 wc (Old wc) A (namesP p).length (namesP p) ∧ Below W1.heap.size W1 wc
theorem NsR.of {W1 w4 : World} {p : Pg} {base : Nat} {v4 : Value} {l : Pl} (hpg : PgI W1 (Old W1) p l) (ho : w4.ownsRow base 9 1 v4 (p.ins.length + p.rls.length) ((p.ins.map fun s => nmV s.nm) ++ p.rls.map nmV)) (hb : Below W1.heap.size W1 w4) : NsR W1 p v4 w4 := by
  have hl : p.ins.length + p.rls.length = (namesP p).length := by unfold namesP; rw [List.length_append, List.length_map]
  have hm : (p.ins.map fun s => nmV s.nm) ++ p.rls.map nmV = (namesP p).map nmV := by unfold namesP; rw [List.map_append, List.map_map]; rfl
  rw [hl, hm] at ho
  obtain ⟨A, c, rfl, h1, h2⟩ := own_shape ho
  refine ⟨A, c, rfl, h1, h2, own_nmC ho rfl (fun s hs => ?_), hb⟩
  unfold namesP at hs
  rcases List.mem_append.1 hs with q | q
  · obtain ⟨x, hx, rfl⟩ := List.mem_map.1 q
    obtain ⟨cs, -, h, -⟩ := rw_mem hpg.r1 x hx
    exact h
  · obtain ⟨cs, -, h⟩ := rw_mem hpg.r2 s q
    exact h
def DuL (W : World) (l : List (List UInt8)) (g : Nat) (v : Value) (wr : World) : Prop :=
  ∃ k : Nat, k ≤ l.length ∧ l.length - k < g ∧ v = .int .i64 (k : Int) ∧ twiceG (l.take k) (l.drop k) = twiceG [] l ∧ Below W.heap.size W wr
def KiL (W : World) (l : List Sg) (g : Nat) (v : Value) (wr : World) : Prop :=
  ∃ k : Nat, k ≤ l.length ∧ l.length - k < g ∧ v = .int .i64 (k : Int) ∧ (l.drop k).all kindB = l.all kindB ∧ Below W.heap.size W wr
theorem step15 {p : Pg} {v : Vs} {c : Ins} (h : opnP c.op < 0) : stepP p v c = .error 15 := by unfold stepP; rw [if_pos h]
theorem step9 {p : Pg} {v : Vs} {c : Ins} (h0 : 0 ≤ opnP c.op) (h9 : argP p v.stored v.used c = false) : stepP p v c = .error 9 := by unfold stepP; rw [if_neg (by omega), if_pos h9]
theorem step11 {p : Pg} {v : Vs} {c : Ins} (h0 : 0 ≤ opnP c.op) (h9 : argP p v.stored v.used c = true) (h : v.st.length < (opnP c.op).toNat) : stepP p v c = .error 11 := by unfold stepP; rw [if_neg (by omega), if_neg (by rw [h9]; decide), if_pos h]
theorem step10 {p : Pg} {v : Vs} {c : Ins} (h0 : 0 ≤ opnP c.op) (h9 : argP p v.stored v.used c = true) (h : ¬ v.st.length < (opnP c.op).toNat) (hk : kndP p c (v.st.drop (restN v c)) = none) : stepP p v c = .error 10 := by unfold stepP; rw [if_neg (by omega), if_neg (by rw [h9]; decide), if_neg h, hk]
theorem stepN {p : Pg} {v : Vs} {c : Ins} {k : Int} (h0 : 0 ≤ opnP c.op) (h9 : argP p v.stored v.used c = true) (h : ¬ v.st.length < (opnP c.op).toNat) (hk : kndP p c (v.st.drop (restN v c)) = some k) :
    stepP p v c = if c.op = 32 then (if 0 < restN v c then .error 20 else .ok ⟨v.st.take (restN v c), v.stored + 1, v.used⟩) else if 24 < restN v c + 1 then .error 17 else .ok ⟨v.st.take (restN v c) ++ [k], v.stored, if keptB c.op then v.used + 1 else v.used⟩ := by
  unfold stepP
  rw [if_neg (by omega), if_neg (by rw [h9]; decide), if_neg h, hk]
theorem infoI7 : (Tryz.prog.info? 3).map (fun i => (i.zero, i.size, i.bytes)) = some (some (.int .i64 0), 1, 8) := by kernel_rfl
theorem int_one (l : List Int) : ∀ u ∈ l.map (Value.int .i64), u.oneCell' = true := by
  intro u hu
  obtain ⟨x, -, rfl⟩ := List.mem_map.1 hu
  rfl
def TopR (W : World) (top : List Int) (v : Value) (wc : World) : Prop := wc = W ∧ ∃ A c, v = .slice A top.length c ∧ Rw IaC 1 W (Old W) A top.length top
theorem TopR.nil {W : World} {top : List Int} {A : Option Addr} {n c : Nat} (h : top.length = 0) (hn : n = 0) : TopR W top (.slice A n c) W := by
  subst hn
  have : top = [] := List.eq_nil_of_length_eq_zero h
  subst this
  exact ⟨rfl, A, c, rfl, Rw.nil⟩
theorem TopR.drop {W : World} {l : List Int} {A : Option Addr} {n r c : Nat} (h : Rw IaC 1 W (Old W) A n l) (hr : r ≤ n) : TopR W (l.drop r) (.slice (Option.map (fun x => x.add r) A) (n - r) c) W := by
  have hl : (l.drop r).length = n - r := by rw [List.length_drop, h.1]
  refine ⟨rfl, _, c, by rw [hl], hl ▸ rfl, fun hp => ?_⟩
  rw [hl] at hp
  obtain ⟨b, o, e, hb, hat⟩ := h.2 (by omega)
  subst e
  refine ⟨b, o + r, by simp [Addr.add], hb, fun k x hx => ?_⟩
  rw [List.getElem?_drop] at hx
  obtain ⟨cs, h1, h2, h3⟩ := hat _ x hx
  refine ⟨cs, h1, h2, ?_⟩
  rw [show o + r + k * 1 = o + (r + k) * 1 by omega]
  exact h3
theorem own_ia {w : World} {base n c : Nat} {A : Option Addr} {l : List Int} (h : w.ownsRow base 3 1 (.slice A n c) n (l.map (Value.int .i64))) (hn : l.length = n) : Rw IaC 1 w (Old w) A n l :=
  Rw.of_own (f := fun z => [Value.int .i64 z]) (base := base) (e := 3) (c := c) (by rw [← List.map_eq_flatMap]; exact h) hn (fun _ _ => rfl) (fun _ _ => rfl) (fun b _ hb => hb)
theorem ia_src7 {w : World} {S : Nat → Prop} {A : Option Addr} {n : Nat} {l : List Int} (h : Rw IaC 1 w S A n l) : Src w 1 A n (l.map (Value.int .i64)) := by
  refine ⟨by rw [List.length_map, h.1]; omega, fun hn => ?_⟩
  obtain ⟨b, o, e, -, hr⟩ := h.2 hn
  refine ⟨_, e, fun j u hu => ?_⟩
  rw [List.getElem?_map] at hu
  obtain ⟨s, hs, rfl⟩ := Option.map_eq_some_iff.1 hu
  obtain ⟨cs, hl, rfl, hat⟩ := hr j s hs
  rw [Addr.add_mid]
  simpa using hat 0 _ rfl
theorem want_zero {op : Int} (h : 0 ≤ opnP op) : ∀ x ∈ wantL7 op, x = 0 → op = 16 := by
  rcases op_all h with rfl | rfl | rfl | rfl | rfl | rfl | rfl | rfl | rfl | rfl | rfl | rfl | rfl | rfl | rfl | rfl | rfl | rfl | rfl | rfl | rfl | rfl | rfl | rfl <;> decide
theorem getD_of {l : List Int} {j : Nat} {x : Int} (h : l[j]? = some x) : l.getD j 0 = x := by rw [List.getD_eq_getElem?_getD, h]; rfl
def RvR (W : World) (p : Pg) (R : Int × Int × Int) (g : Nat) (v11 v12 v13 v93 : Value) (wr : World) : Prop :=
  ∃ (k : Nat) (v : Vs) (most : Int), k ≤ p.code.length ∧ p.code.length - k < g ∧ v93 = .int .i64 (k : Int) ∧ v12 = .int .i64 (v.used : Int) ∧ v13 = .int .i64 (v.stored : Int) ∧ runG p (p.code.drop k) k v most = R ∧ v.st.length ≤ 24 ∧ v.used ≤ k ∧ v.stored ≤ k ∧
    wr.ownsRow W.heap.size 3 1 v11 v.st.length (v.st.map (Value.int .i64)) ∧ Below W.heap.size W wr
def WkR (W : World) (top want : List Int) (g : Nat) (v : Value) (wr : World) : Prop :=
  ∃ j : Nat, j ≤ want.length ∧ want.length - j < g ∧ v = .int .i64 (j : Int) ∧ (∀ i, i < j → okW top want i) ∧ Below W.heap.size W wr
theorem run_err {p : Pg} {c : Ins} {l : List Ins} {i : Int} {v : Vs} {most e : Int} {R : Int × Int × Int} (h : runG p (c :: l) i v most = R) (hs : stepP p v c = .error e) : R = (i, 0, e) := by
  rw [← h, runG_cons, hs]
theorem run_ok {p : Pg} {c : Ins} {l : List Ins} {i : Int} {v v' : Vs} {most : Int} {R : Int × Int × Int} (h : runG p (c :: l) i v most = R) (hs : stepP p v c = .ok v') : runG p l (i + 1) v' (max most v'.st.length) = R := by
  rw [← h, runG_cons, hs]
theorem RetVf.of {p : Pg} {w w' : World} {a b c : Int} (h : verP p = (a, b, c)) (hb : Below w.heap.size w w') : RetVf p w (.returned (.tuple #[.int .i64 a, .int .i64 c])) w' := ⟨by rw [h], hb⟩

set_option maxRecDepth 100000 in
set_option maxHeartbeats 8000000 in
theorem rVerify_any {w : World} {p : Pg} {l : Pl} (hpg : PgI w (Old w) p l) : Calls Tryz.prog 37 #[pgV p l] w (RetVf p w) := by
  obtain ⟨B1, k1, B2, k2, B3, k3, B4, k4⟩ := l
  have hb1 := box_below w (Obj.cells #[.slice B1 p.ins.length k1, .slice B2 p.rls.length k2, .slice B3 p.cells.length k3, .slice B4 p.code.length k4] 35)
  have hx0 := heap_alloc_new w (Obj.cells #[.slice B1 p.ins.length k1, .slice B2 p.rls.length k2, .slice B3 p.cells.length k3, .slice B4 p.code.length k4] 35)
  have hs1 := World.size_alloc w (Obj.cells #[.slice B1 p.ins.length k1, .slice B2 p.rls.length k2, .slice B3 p.cells.length k3, .slice B4 p.code.length k4] 35)
  have HPG := Lib.hid hpg
  have HB1 := Lib.hid hb1
  have HX0 := Lib.hid hx0
  have HS1 := Lib.hid hs1
  have l1 := hpg.h1
  have m1 := hpg.m1
  have l2 := hpg.h2
  have m2 := hpg.m2
  have l3 := hpg.h3
  have m3 := hpg.m3
  have l4 := hpg.h4
  have m4 := hpg.m4
  unfold maxLen at m1 m2 m3 m4
  dsimp only at l1 m1 l2 m2 l3 m3 l4 m4
  clear hpg hb1 hx0 hs1
  by_cases hcn : 64 < p.ins.length ∨ 16 < p.rls.length ∨ 64 < p.cells.length ∨ 600 < p.code.length
  · have HE := Lib.hid (show hdrP p = 3 by unfold hdrP; rw [if_pos hcn])
    have hcs : (64 : Int) < (p.ins.length : Int) ∨ (¬ (64 : Int) < (p.ins.length : Int) ∧ (16 : Int) < (p.rls.length : Int)) ∨ (¬ (64 : Int) < (p.ins.length : Int) ∧ ¬ (16 : Int) < (p.rls.length : Int) ∧ (64 : Int) < (p.cells.length : Int)) ∨ (¬ (64 : Int) < (p.ins.length : Int) ∧ ¬ (16 : Int) < (p.rls.length : Int) ∧ ¬ (64 : Int) < (p.cells.length : Int) ∧ (600 : Int) < (p.code.length : Int)) := by omega
    clear hcn
    rcases hcs with d0 | ⟨d0, d1⟩ | ⟨d0, d1, d2⟩ | ⟨d0, d1, d2, d3⟩
    all_goals
      go_enter Tryz.func37, Tryz.ntmps37
      go_wp2
      go_ret2
      exact RetVf.hdr HE.out (by decide) HB1.out
  have d0 : ¬ (64 : Int) < (p.ins.length : Int) := by omega
  have d1 : ¬ (16 : Int) < (p.rls.length : Int) := by omega
  have d2 : ¬ (64 : Int) < (p.cells.length : Int) := by omega
  have d3 : ¬ (600 : Int) < (p.code.length : Int) := by omega
  have HH := Lib.hid (show hdrP p = if (namesP p).all nameB = false then 7 else if twiceG [] (namesP p) = true then 8 else if p.ins.all kindB = false then 10 else 0 by unfold hdrP; rw [if_neg hcn])
  have hn64 : p.ins.length ≤ 64 := by omega
  have hn16 : p.rls.length ≤ 16 := by omega
  have hc64 : p.cells.length ≤ 64 := by omega
  have hc600 : p.code.length ≤ 600 := by omega
  obtain ⟨ti, hti, hz0, hz1, hz2⟩ := info_parts infoNm
  have HTI := Lib.hid (And.intro hti (And.intro hz0 (And.intro hz1 hz2)))
  clear hcn hti hz0 hz1 hz2
  go_enter Tryz.func37, Tryz.ntmps37
  go_upto_region 3 with fail
  generalize hW1 : w.alloc (Obj.cells #[.slice B1 p.ins.length k1, .slice B2 p.rls.length k2, .slice B3 p.cells.length k3, .slice B4 p.code.length k4] 35) = W1 at *
  clear hW1
  have hs1 := HS1.out
  have hpx := HX0.out
  have hl1 : w.heap.size < W1.heap.size := by omega
  have hpg1 := HPG.out.mono (S' := Old W1) (w' := W1) (fun b q => Nat.lt_trans q hl1) (keepOn_below HB1.out fun b q => q)
  have q0 : W1.cell? ⟨w.heap.size, 0, Option.none⟩ = some (.slice B1 p.ins.length k1) := by simp [World.cell?, hpx]
  have q1 : W1.cell? ⟨w.heap.size, 1, Option.none⟩ = some (.slice B2 p.rls.length k2) := by simp [World.cell?, hpx]
  have HIN := Lib.hid (rinputs_any B1 k1 p.ins W1.drew (by omega) (hpg1.r1.mono SgC.mono (fun b q => q) (keepOn_below (below_drew (Below.refl W1.heap.size W1)) fun b q => q)))
  have HPG1 := Lib.hid hpg1
  have hmm1 : p.ins.length + p.rls.length ≤ maxLen := by unfold maxLen; omega
  have hmm2 : (p.ins.length + p.rls.length) * 16 ≤ 140737488355328 := by omega
  clear hs1 hpx hpg1
  go_cut [4] (fun v4 wc => NsR W1 p v4 wc)
  case first =>
    go_region_law (first | ((go_simp; go_at_call 53; refine HIN.out.mono ?_; rintro e2 w2 ⟨A2, c2, rfl, hc2, hm2, hown2, hb2⟩; have hbd := below_two (below_drew (Below.refl W1.heap.size W1)) hb2 (Nat.le_refl _); have hpx2 := (hbd.block w.heap.size hl1).trans HX0.out; have u1 : w2.cell? ⟨w.heap.size, 1, Option.none⟩ = some (.slice B2 p.rls.length k2) := (by simp [World.cell?, hpx2]); have hl2 : w.heap.size < w2.heap.size := Nat.lt_of_lt_of_le hl1 hbd.size; have HBD := Lib.hid hbd; have HO2 := Lib.hid hown2; have HSR := Lib.hid (rw_src (HPG1.out.below hbd).r2); have HZ2 := Lib.hid hbd.size; clear hown2 hb2 hbd hpx2)) | ((refine step_append_src (o := ⟨some 49, _, _, _, _, _⟩) (w := w2) _ _ 31 rfl rfl Tryz.underlying31 HTI.out.1 HTI.out.2.1 HTI.out.2.2.1 HTI.out.2.2.2 rfl (by decide) rfl HO2.out HBD.out rfl HSR.out (by intro u hu; obtain ⟨s, -, rfl⟩ := List.mem_map.1 hu; rfl) hmm1 hmm2 HZ2.out ?_; intro v4 w4 hown4 hb4 hs4; have HO4 := Lib.hid hown4; have HB4 := Lib.hid hb4; clear hown4 hb4)))
    all_goals
      go_wp2
      go_meet
      exact NsR.of HPG1.out HO4.out HB4.out
  case rest =>
  rename World => w4
  obtain ⟨A4, c4, rfl, hc4, hm4, hr4, hb4⟩ := hcut
  have HR4 := Lib.hid hr4
  have HB14 := Lib.hid hb4
  have hw4 := hb4.size
  have HBW := Lib.hid (below_two HB1.out hb4 HB1.out.size)
  have hpx := (hb4.block w.heap.size hl1).trans HX0.out
  have HPX := Lib.hid hpx
  unfold maxLen at hm4
  clear hr4 hb4 hpx HIN q0 q1 HTI hmm1 hmm2
  go_wp2
  go_loopg [52] ((namesP p).length + 1) (fun g v wr => NmL w4 (namesP p) g v wr)
  case atStart => exact ⟨0, Nat.zero_le _, by omega, rfl, by rw [List.drop_zero], Below.refl _ _⟩
  case round =>
    obtain ⟨k, hk, hgk, rfl, hall, hbel⟩ := hrel
    have HBR := Lib.hid (below_two HBW.out hbel HBW.out.size)
    by_cases hlt : k < (namesP p).length
    case pos =>
      obtain ⟨b, o, x, hA, hSb, hx, hxl, y0⟩ := nmAt (HR4.out.mono NmC.mono (fun _ q => q) (keepOn_below hbel fun _ q => q)) hlt
      subst hA
      have hget : (namesP p)[k] = x := by
        rw [List.getElem?_eq_getElem hlt] at hx
        injection hx
      rw [List.drop_eq_getElem_cons hlt, hget, List.all_cons] at hall
      have hbk : b < wr.heap.size := Nat.lt_of_lt_of_le hSb hbel.size
      have HN := Lib.hid (fun W => rname_any x W hxl)
      have HALL := Lib.hid hall
      have HBEL := Lib.hid hbel
      clear hx hget hSb hall hbel
      generalize hnb : nameB x = nb at *
      clear hnb
      cases nb with
      | false =>
        have HE := Lib.hid (show hdrP p = 7 by rw [HH.out, if_pos (by rw [← HALL.out]; rfl)])
        go_wp2_with fail
        refine (HN.out _).mono ?_
        rintro e5 w5 ⟨rfl, hb5⟩
        go_wp2
        go_ret2
        exact RetVf.hdr HE.out (by decide) (below_two HBR.out hb5 HBR.out.size)
      | true =>
        go_wp2_with fail
        refine (HN.out _).mono ?_
        rintro e5 w5 ⟨rfl, hb5⟩
        have HB5 := Lib.hid (below_two HBEL.out hb5 HBEL.out.size)
        clear hb5
        go_wp2
        go_roundg ((namesP p).length - k)
        case measure => omega
        case rel => exact ⟨k + 1, by omega, by omega, by go_num, by rw [← HALL.out]; rfl, HB5.out⟩
    obtain rfl : k = (namesP p).length := by omega
    rw [List.drop_length] at hall
    have HH2 := Lib.hid (show hdrP p = if twiceG [] (namesP p) = true then 8 else if p.ins.all kindB = false then 10 else 0 by rw [HH.out, if_neg (by rw [← hall]; decide)])
    have HRW := Lib.hid (HR4.out.mono NmC.mono (S' := Old wr) (w' := wr) (fun b q => Nat.lt_of_lt_of_le q hbel.size) (keepOn_below hbel fun _ q => q))
    have hszr := hbel.size
    have HPR := Lib.hid ((hbel.block w.heap.size (by omega)).trans HPX.out)
    clear hall hbel hlt hgk hk
    go_wp2
    go_loopg [62] ((namesP p).length + 1) (fun g v wq => DuL wr (namesP p) g v wq)
    case atStart => exact ⟨0, Nat.zero_le _, by omega, rfl, rfl, Below.refl _ _⟩
    case round =>
      rename World => wq
      obtain ⟨k, hk, hgk, rfl, htw, hbel⟩ := hrel
      have HBQ := Lib.hid (below_two HBR.out hbel HBR.out.size)
      by_cases hlt : k < (namesP p).length
      case pos =>
        have hrq := HRW.out.mono NmC.mono (S' := Old wq) (w' := wq) (fun b q => Nat.lt_of_lt_of_le q hbel.size) (keepOn_below hbel fun _ q => q)
        have hrt := rw_take7 hrq (Nat.le_of_lt hlt)
        have htl : ((namesP p).take k).length = k := by rw [List.length_take]; omega
        obtain ⟨b, o, x, hA, hSb, hx, hxl, y0⟩ := nmAt hrq hlt
        have hget : (namesP p)[k] = x := by
          rw [List.getElem?_eq_getElem hlt] at hx
          injection hx
        rw [List.drop_eq_getElem_cons hlt, hget, twiceG_cons] at htw
        have htk : (namesP p).take (k + 1) = (namesP p).take k ++ [x] := by rw [List.take_add_one, hx]; rfl
        have hix := rindex_any A4 c4 ((namesP p).take k) x wq (by unfold maxLen; omega) (by rw [htl]; exact hrt)
        rw [htl] at hix
        have hig := idxG_ge (s := x) (l := (namesP p).take k) (i := 0) (by decide)
        generalize idxG x ((namesP p).take k) 0 = z at *
        subst hA
        have hbk : b < wq.heap.size := hSb
        have HIX := Lib.hid hix
        have HTW := Lib.hid htw
        have HTK := Lib.hid htk
        have HBEL := Lib.hid hbel
        have hkl : (k : Int) ≤ ((namesP p).length : Int) := by omega
        have hkc : (k : Int) ≤ (c4 : Int) := by omega
        have hkc2 : k ≤ c4 := by omega
        clear hrq hrt htl hx hget hSb htw htk hix hbel
        by_cases hz : 0 ≤ z
        · have hm := hig.1 hz
          have HE := Lib.hid (show hdrP p = 8 by rw [HH2.out, if_pos (by rw [← HTW.out, decide_eq_true hm]; rfl)])
          clear hig hm
          go_wp2_with fail
          refine HIX.out.mono ?_
          rintro e5 w5 ⟨rfl, hb5⟩
          go_wp2
          go_ret2
          exact RetVf.hdr HE.out (by decide) (below_two HBQ.out hb5 HBQ.out.size)
        · have hm : ¬ x ∈ (namesP p).take k := fun q => hz (hig.2 q)
          have HT2 := Lib.hid (show twiceG ((namesP p).take (k + 1)) ((namesP p).drop (k + 1)) = twiceG [] (namesP p) by rw [HTK.out, ← HTW.out, decide_eq_false hm, Bool.false_or])
          have hz' : z < 0 := by omega
          clear hig hm hz
          go_wp2_with fail
          refine HIX.out.mono ?_
          rintro e5 w5 ⟨rfl, hb5⟩
          have HB5 := Lib.hid (below_two HBEL.out hb5 HBEL.out.size)
          clear hb5
          go_wp2
          go_roundg ((namesP p).length - k)
          case measure => omega
          case rel => exact ⟨k + 1, by omega, by omega, by go_num, HT2.out, HB5.out⟩
      obtain rfl : k = (namesP p).length := by omega
      rw [List.drop_length, List.take_length] at htw
      have HH3 := Lib.hid (show hdrP p = if p.ins.all kindB = false then 10 else 0 by rw [HH2.out, if_neg (by rw [← htw]; show ¬ (false = true); decide)])
      have hszq := hbel.size
      have hpq := (hbel.block w.heap.size (by omega)).trans HPR.out
      have HPQ := Lib.hid hpq
      have q0 : wq.cell? ⟨w.heap.size, 0, Option.none⟩ = some (.slice B1 p.ins.length k1) := by simp [World.cell?, hpq]
      have hlq : w.heap.size < wq.heap.size := by omega
      clear htw hbel hlt hgk hk hpq HRW
      go_wp2
      go_loopg [77] (p.ins.length + 1) (fun g v ws => KiL wq p.ins g v ws)
      case atStart => exact ⟨0, Nat.zero_le _, by omega, rfl, by rw [List.drop_zero], Below.refl _ _⟩
      case round =>
        rename World => ws
        obtain ⟨k, hk, hgk, rfl, hall, hbel⟩ := hrel
        clear q0
        have HBS := Lib.hid (below_two HBQ.out hbel HBQ.out.size)
        have hbs := HBS.out
        by_cases hlt : k < p.ins.length
        case pos =>
          obtain ⟨b, o, x, hA, hSb, hx, -, -, y0, y1⟩ := sgAt (HPG.out.r1.mono SgC.mono (S' := Old ws) (w' := ws) (fun b q => Nat.lt_of_lt_of_le q hbs.size) (keepOn_below hbs fun _ q => q)) hlt
          have hA' : B1 = some ⟨b, o, Option.none⟩ := hA
          subst hA'
          have hget : p.ins[k] = x := by
            rw [List.getElem?_eq_getElem hlt] at hx
            injection hx
          rw [List.drop_eq_getElem_cons hlt, hget, List.all_cons] at hall
          obtain ⟨nm, kd⟩ := x
          dsimp only at y0 y1
          have hbk : b < ws.heap.size := hSb
          have HALL := Lib.hid hall
          have hb5 := box_below ws (Obj.cells #[.string ⟨nm.toArray⟩, .int .i64 kd] 40)
          have HB5 := Lib.hid (below_two hbel hb5 hbel.size)
          have HB6 := Lib.hid (below_two HBS.out hb5 HBS.out.size)
          clear hx hget hSb hall hbel hbs hb5
          by_cases hk12 : kd = 1 ∨ kd = 2
          · have HE := Lib.hid (show (p.ins.drop (k + 1)).all kindB = p.ins.all kindB by rw [← HALL.out]; rw [show kindB ⟨nm, kd⟩ = true from decide_eq_true hk12, Bool.true_and])
            rcases hk12 with rfl | rfl
            all_goals
              go_wp2
              go_roundg (p.ins.length - k)
              case measure => omega
              case rel => exact ⟨k + 1, by omega, by omega, by go_num, HE.out, HB5.out⟩
          · have n1 : (kd != 1) = true := by simp; omega
            have n2 : (kd != 2) = true := by simp; omega
            have HE := Lib.hid (show hdrP p = 10 by rw [HH3.out, if_pos (by rw [← HALL.out, show kindB ⟨nm, kd⟩ = false from decide_eq_false hk12, Bool.false_and])])
            clear hk12
            go_wp2
            go_ret2
            exact RetVf.hdr HE.out (by decide) HB6.out
        obtain rfl : k = p.ins.length := by omega
        rw [List.drop_length] at hall
        have HH4 := Lib.hid (show hdrP p = 0 by rw [HH3.out, if_neg (by rw [← hall]; decide)])
        have HVP := Lib.hid (show verP p = runG p p.code 0 ⟨[], 0, 0⟩ 0 by unfold verP; rw [HH4.out]; rfl)
        have hszs := hbel.size
        have hps := (hbel.block w.heap.size hlq).trans HPQ.out
        have HPS := Lib.hid hps
        have q3 : ws.cell? ⟨w.heap.size, 3, Option.none⟩ = some (.slice B4 p.code.length k4) := by simp [World.cell?, hps]
        have hls : w.heap.size < ws.heap.size := by omega
        obtain ⟨R, hR⟩ : ∃ R, runG p p.code 0 ⟨[], 0, 0⟩ 0 = R := ⟨_, rfl⟩
        rw [hR] at HVP
        have HRR := Lib.hid hR
        clear hall hbel hlt hgk hk hps hR hbs HH HH2 HH3 HH4
        go_wp2
        go_loopg [11, 12, 13, 93] (p.code.length + 1) (fun g v11 v12 v13 v93 wx => RvR ws p R g v11 v12 v13 v93 wx)
        case atStart => exact ⟨0, ⟨[], 0, 0⟩, 0, Nat.zero_le _, by omega, rfl, rfl, rfl, by rw [List.drop_zero]; exact HRR.out, Nat.zero_le _, Nat.le_refl _, Nat.le_refl _, World.ownsRow_nil _ _ _ _, Below.refl _ _⟩
        case round =>
          rename World => wx
          obtain ⟨k, v, most, hk, hgk, rfl, rfl, rfl, hru, h24, huk, hsk, hown, hbel⟩ := hrel
          obtain ⟨A11, c11, rfl, hc11, hm11⟩ := own_shape hown
          have HBX := Lib.hid (below_two HBS.out hbel HBS.out.size)
          have hbx := HBX.out
          have hpx := (hbel.block w.heap.size hls).trans HPS.out
          have hlx : w.heap.size < wx.heap.size := by have := hbel.size; omega
          unfold maxLen at hm11
          clear q3
          by_cases hlt : k < p.code.length
          case neg =>
            obtain rfl : k = p.code.length := by omega
            rw [List.drop_length, runG_nil] at hru
            have q1 : wx.cell? ⟨w.heap.size, 1, Option.none⟩ = some (.slice B2 p.rls.length k2) := by simp [World.cell?, hpx]
            have q2 : wx.cell? ⟨w.heap.size, 2, Option.none⟩ = some (.slice B3 p.cells.length k3) := by simp [World.cell?, hpx]
            have q3 : wx.cell? ⟨w.heap.size, 3, Option.none⟩ = some (.slice B4 p.code.length k4) := by simp [World.cell?, hpx]
            by_cases hst : v.st = []
            case neg =>
              rw [if_pos hst] at hru
              have HE := Lib.hid (HVP.out.trans hru.symm)
              have hpos : (0 : Int) < (v.st.length : Int) := by have := List.length_pos_iff.2 hst; omega
              clear hru hst hown hbel hbx hpx hlt
              go_wp2
              go_ret2
              exact RetVf.of HE.out HBX.out
            rw [if_neg (by simpa using hst)] at hru
            have hz0 : v.st.length = 0 := by rw [hst]; rfl
            rw [hz0]
            by_cases hms : v.stored < p.rls.length ∨ v.used < p.cells.length
            · rw [if_pos hms] at hru
              have HE := Lib.hid (HVP.out.trans hru.symm)
              have hcs : (v.stored : Int) < (p.rls.length : Int) ∨ (¬ (v.stored : Int) < (p.rls.length : Int) ∧ (v.used : Int) < (p.cells.length : Int)) := by omega
              clear hru hst hown hbel hbx hpx hlt hms hz0
              rcases hcs with e0 | ⟨e0, e1⟩
              all_goals
                go_wp2
                go_ret2
                exact RetVf.of HE.out HBX.out
            · rw [if_neg hms] at hru
              have HE := Lib.hid (HVP.out.trans hru.symm)
              have e0 : ¬ (v.stored : Int) < (p.rls.length : Int) := by omega
              have e1 : ¬ (v.used : Int) < (p.cells.length : Int) := by omega
              clear hru hst hown hbel hbx hpx hlt hms hz0
              go_wp2
              go_ret2
              exact RetVf.of HE.out HBX.out
          obtain ⟨b, o, c, hA, hSb, hx, y0, y1⟩ := inAt (HPG.out.r4.mono InC.mono (S' := Old wx) (w' := wx) (fun b q => Nat.lt_of_lt_of_le q hbx.size) (keepOn_below hbx fun _ q => q)) hlt
          have hA2 : B4 = some ⟨b, o, Option.none⟩ := hA
          subst hA2
          have hget : p.code[k] = c := by
            rw [List.getElem?_eq_getElem hlt] at hx
            injection hx
          rw [List.drop_eq_getElem_cons hlt, hget] at hru
          have hbk : b < wx.heap.size := hSb
          obtain ⟨op, a⟩ := c
          dsimp only at y0 y1
          have hbi := box_below wx (Obj.cells #[.int .i64 op, .int .i64 a] 76)
          have HOP := Lib.hid (fun W => roperands_any op W)
          have HRU := Lib.hid hru
          have HBI := Lib.hid (below_two HBX.out hbi HBX.out.size)
          have HBI2 := Lib.hid (below_two hbel hbi hbel.size)
          have HOW := Lib.hid (hown.alloc (Obj.cells #[.int .i64 op, .int .i64 a] 76))
          by_cases ho : opnP op < 0
          · have HE := Lib.hid (HVP.out.trans (run_err hru (step15 (c := ⟨op, a⟩) ho)))
            clear hru hown hbel hbx hpx hx hget hSb hbi
            go_wp2_with fail
            refine (HOP.out _).mono ?_
            rintro e5 w5 ⟨rfl, rfl⟩
            go_wp2
            go_ret2
            exact RetVf.of HE.out HBI.out
          have h0 : 0 ≤ opnP op := by omega
          have hpy := (hbi.block w.heap.size hlx).trans hpx
          have q0 : (wx.alloc (Obj.cells #[.int .i64 op, .int .i64 a] 76)).cell? ⟨w.heap.size, 0, Option.none⟩ = some (.slice B1 p.ins.length k1) := by simp [World.cell?, hpy]
          have q1 : (wx.alloc (Obj.cells #[.int .i64 op, .int .i64 a] 76)).cell? ⟨w.heap.size, 1, Option.none⟩ = some (.slice B2 p.rls.length k2) := by simp [World.cell?, hpy]
          have q2 : (wx.alloc (Obj.cells #[.int .i64 op, .int .i64 a] 76)).cell? ⟨w.heap.size, 2, Option.none⟩ = some (.slice B3 p.cells.length k3) := by simp [World.cell?, hpy]
          have q3 : (wx.alloc (Obj.cells #[.int .i64 op, .int .i64 a] 76)).cell? ⟨w.heap.size, 3, Option.none⟩ = some (.slice (some ⟨b, o, Option.none⟩) p.code.length k4) := by simp [World.cell?, hpy]
          have HPY := Lib.hid hpy
          have hbib := HBI.out
          have hpgy : PgI (wx.alloc (Obj.cells #[.int .i64 op, .int .i64 a] 76)) (Old (wx.alloc (Obj.cells #[.int .i64 op, .int .i64 a] 76))) p ⟨B1, k1, B2, k2, B3, k3, some ⟨b, o, Option.none⟩, k4⟩ := HPG.out.mono (fun b q => Nat.lt_of_lt_of_le q hbib.size) (keepOn_below hbib fun _ q => q)
          have HFI := Lib.hid (rfits_any hpgy op a v.used v.stored h0)
          have HPGY := Lib.hid hpgy
          have hly : w.heap.size < (wx.alloc (Obj.cells #[.int .i64 op, .int .i64 a] 76)).heap.size := by rw [World.size_alloc]; omega
          have hxi := heap_alloc_new wx (Obj.cells #[.int .i64 op, .int .i64 a] 76)
          have HXI := Lib.hid hxi
          have HO0 := Lib.hid h0
          clear hru hown hbel hbx hpx hx hget hSb hbi hpy hbib hpgy hxi
          go_upto_region 30 with (refine (HOP.out _).mono ?_; rintro e5 w5 ⟨rfl, rfl⟩)
          have hsxy : wx.heap.size < (wx.alloc (Obj.cells #[.int .i64 op, .int .i64 a] 76)).heap.size := by rw [World.size_alloc]; omega
          generalize wx.alloc (Obj.cells #[.int .i64 op, .int .i64 a] 76) = wy at *
          have hiy := HXI.out
          have i0 : wy.cell? ⟨wx.heap.size, 0, Option.none⟩ = some (.int .i64 op) := by simp [World.cell?, hiy]
          have i1 : wy.cell? ⟨wx.heap.size, 1, Option.none⟩ = some (.int .i64 a) := by simp [World.cell?, hiy]
          clear hiy y0 y1
          obtain ⟨n, hn⟩ : ∃ n : Nat, (opnP op).toNat = n := ⟨_, rfl⟩
          have hni : opnP op = (n : Int) := by omega
          have HN := Lib.hid hn
          have HNI := Lib.hid hni
          generalize hag : argP p v.stored v.used ⟨op, a⟩ = ag at *
          have HAG := Lib.hid hag
          clear hag hn
          cases ag with
          | false =>
            have HE := Lib.hid (HVP.out.trans (run_err HRU.out (step9 (c := ⟨op, a⟩) HO0.out HAG.out)))
            go_wp2_with fail
            refine HFI.out.mono ?_
            rintro e5 w5 ⟨rfl, hb5⟩
            have HB5 := Lib.hid (below_two HBI.out hb5 HBI.out.size)
            clear hb5
            go_wp2
            go_ret2
            exact RetVf.of HE.out HB5.out
          | true =>
          go_wp2_with fail
          refine HFI.out.mono ?_
          rintro e5 w5 ⟨rfl, hb5⟩
          have HB5 := Lib.hid (below_two HBI.out hb5 HBI.out.size)
          have HB52 := Lib.hid (below_two HBI2.out hb5 HBI2.out.size)
          have HO5 := Lib.hid (own_below HOW.out hb5 (Nat.le_refl _))
          have hs5 := hb5.size
          have hp5 := (hb5.block w.heap.size hly).trans HPY.out
          have hi5 := (hb5.block wx.heap.size hsxy).trans HXI.out
          have HP5 := Lib.hid hp5
          have HI5 := Lib.hid hi5
          have hpg5 := HPGY.out.below hb5
          have HPG5 := Lib.hid hpg5
          clear q0 q1 q2 q3 i0 i1 hb5 hpg5 HFI HPGY HBI HBI2 HOW HPY HXI
          by_cases hml : v.st.length < n
          · have HE := Lib.hid (HVP.out.trans (run_err HRU.out (step11 (c := ⟨op, a⟩) HO0.out HAG.out (by rw [HN.out]; exact hml))))
            have hmi : (v.st.length : Int) < opnP op := by omega
            clear hp5 hi5 hml hni
            go_wp2
            go_ret2
            exact RetVf.of HE.out HB5.out
          have hmi : ¬ (v.st.length : Int) < opnP op := by omega
          obtain ⟨r, hr⟩ : ∃ r, restN v ⟨op, a⟩ = r := ⟨_, rfl⟩
          have hr' : v.st.length - n = r := by rw [← hr, ← HN.out]; rfl
          have hrl : r ≤ v.st.length := by omega
          have hri : (v.st.length : Int) - opnP op = (r : Int) := by omega
          have hrw : IntKind.i64.wrap ((v.st.length : Int) - opnP op) = (r : Int) := by rw [hri]; exact IntWalk.i64_in _ (by omega)
          have hsl1 : 0 ≤ (r : Int) := by omega
          have hsl2 : (r : Int) ≤ (v.st.length : Int) := by omega
          have hsl3 : (v.st.length : Int) ≤ (c11 : Int) := by omega
          have hsl4 : ((r : Int)).toNat = r := Int.toNat_natCast r
          have hsl5 : (r : Int) ≤ (c11 : Int) := by omega
          have hnr : v.st.length - r = n := by omega
          have HNR := Lib.hid hnr
          have HR := Lib.hid hr
          have HRI := Lib.hid (And.intro hr' hri)
          have hia := own_ia HO5.out rfl
          have HIA := Lib.hid hia
          have HML := Lib.hid hml
          obtain ⟨top, htop⟩ : ∃ top, v.st.drop r = top := ⟨_, rfl⟩
          have htl : top.length = n := by rw [← htop, List.length_drop]; exact hnr
          have HTOP := Lib.hid htop
          have HTL := Lib.hid htl
          clear hp5 hi5 hr hr' hri hnr hia hml htop htl hni
          go_upto_region 34 with fail
          go_cut [17] (fun v17 wc => TopR w5 top v17 wc)
          case first =>
            go_wp2_with fail
            case' inl h => obtain rfl := h.symm
            all_goals
              go_meet
              first
                | (rw [← HTOP.out]; exact TopR.drop HIA.out hrl)
                | exact TopR.nil (by rw [HTL.out]; have := HNR.out; omega) (by have := HNR.out; omega)
                | exact TopR.nil (by rw [HTL.out]; have := HNR.out; omega) rfl
          case rest =>
          rename World => wc
          obtain ⟨hwc, A17, c17, rfl, hr17⟩ := hcut
          obtain rfl := hwc.symm
          have hp5 := HP5.out
          have hi5 := HI5.out
          have q0 : w5.cell? ⟨w.heap.size, 0, Option.none⟩ = some (.slice B1 p.ins.length k1) := by simp [World.cell?, hp5]
          have q1 : w5.cell? ⟨w.heap.size, 1, Option.none⟩ = some (.slice B2 p.rls.length k2) := by simp [World.cell?, hp5]
          have q2 : w5.cell? ⟨w.heap.size, 2, Option.none⟩ = some (.slice B3 p.cells.length k3) := by simp [World.cell?, hp5]
          have q3 : w5.cell? ⟨w.heap.size, 3, Option.none⟩ = some (.slice (some ⟨b, o, Option.none⟩) p.code.length k4) := by simp [World.cell?, hp5]
          have i0 : w5.cell? ⟨wx.heap.size, 0, Option.none⟩ = some (.int .i64 op) := by simp [World.cell?, hi5]
          have i1 : w5.cell? ⟨wx.heap.size, 1, Option.none⟩ = some (.int .i64 a) := by simp [World.cell?, hi5]
          have hl5 : w.heap.size < w5.heap.size := by omega
          have hl5i : wx.heap.size < w5.heap.size := by omega
          have HW7 := Lib.hid (rwants7_any HPG5.out op a HO0.out (fun e => by
            subst e
            have h9 := HAG.out
            unfold argP at h9
            rw [if_neg (show ¬ ((30 : Int) = 1) by decide), if_neg (show ¬ ((30 : Int) = 2) by decide), if_pos rfl, decide_eq_true_eq] at h9
            exact ⟨a.toNat, by have := h9.1; dsimp only at this; omega, by have := h9.1; have := h9.2; dsimp only at *; omega⟩))
          have HR17 := Lib.hid hr17
          clear hp5 hi5 hr17 HPG5
          go_wp2_with fail
          refine HW7.out.mono ?_
          rintro e6 w6 ⟨A18, rfl, hr18, hb6⟩
          have HWL := Lib.hid (want_len HO0.out)
          have HWZ := Lib.hid (want_zero HO0.out)
          obtain ⟨wl, hwl⟩ : ∃ wl, wantL7 op = wl := ⟨_, rfl⟩
          obtain ⟨wz, hwz⟩ : ∃ wz, wantR7 p ⟨op, a⟩ = wz := ⟨_, rfl⟩
          dsimp only at hr18 ⊢
          rw [hwl] at hr18 HWL HWZ ⊢
          rw [hwz]
          have HKW := Lib.hid (knd_w (p := p) (c := ⟨op, a⟩) (top := top) HO0.out (by rw [HTL.out]; exact HN.out.symm))
          dsimp only at HKW
          rw [hwl, hwz] at HKW
          have hwn : wl.length = n := HWL.out.trans HN.out
          have hwm : wl.length ≤ 3 := by
            rw [hwn, ← HN.out]
            have := HO0.out
            unfold opnP
            repeat' split
            all_goals decide
          have HB6 := Lib.hid (below_two HB5.out hb6 HB5.out.size)
          have HB62 := Lib.hid (below_two HB52.out hb6 HB52.out.size)
          have HO6 := Lib.hid (own_below HO5.out hb6 (Nat.le_refl _))
          have HT6 := Lib.hid (HR17.out.mono IaC.mono (S' := Old w6) (w' := w6) (fun b q => Nat.lt_of_lt_of_le q hb6.size) (keepOn_below hb6 fun _ q => q))
          have HR18 := Lib.hid hr18
          have HP6 := Lib.hid ((hb6.block w.heap.size hl5).trans HP5.out)
          have HI6 := Lib.hid ((hb6.block wx.heap.size hl5i).trans HI5.out)
          have hs6 := hb6.size
          have HWNN := Lib.hid hwn
          have HWZV := Lib.hid hwz
          clear q0 q1 q2 q3 i0 i1 hr18 hb6 hwl hwz hwn HW7 HO5 HR17 HIA HP5 HI5 HB5 HB52
          go_wp2
          go_loopg [130] (wl.length + 1) (fun g v130 wz => WkR w6 top wl g v130 wz)
          case atStart => exact ⟨0, Nat.zero_le _, by omega, rfl, fun i q => absurd q (Nat.not_lt_zero _), Below.refl _ _⟩
          case round =>
            rename World => w7
            obtain ⟨j, hj, hgj, rfl, hok, hb7⟩ := hrel
            have HB7 := Lib.hid (below_two HB6.out hb7 HB6.out.size)
            have hs7 := hb7.size
            by_cases hjl : j < wl.length
            case pos =>
              have hjt : j < top.length := by rw [HTL.out, ← HWNN.out]; exact hjl
              obtain ⟨b8, o8, x, hA8, hSb8, hx, z0⟩ := iaAt (HR18.out.mono IaC.mono (S' := Old w7) (w' := w7) (fun b q => Nat.lt_of_lt_of_le q hs7) (keepOn_below hb7 fun _ q => q)) hjl
              have hrt7 := HT6.out.mono IaC.mono (S' := Old w7) (w' := w7) (fun b q => Nat.lt_of_lt_of_le q hs7) (keepOn_below hb7 fun _ q => q)
              obtain ⟨b9, o9, t, hA9, hSb9, ht, z1⟩ := iaAt hrt7 hjt
              subst hA8
              subst hA9
              have hbk8 : b8 < w7.heap.size := hSb8
              have hbk9 : b9 < w7.heap.size := hSb9
              have HX := Lib.hid (getD_of hx)
              have HT := Lib.hid (getD_of ht)
              have hjl2 : (j : Int) < (wl.length : Int) := by omega
              have hjt2 : (j : Int) < (top.length : Int) := by omega
              have HOK := Lib.hid hok
              by_cases hx0 : x = 0
              case pos =>
                subst hx0
                have h16 : op = 16 := HWZ.out 0 (List.mem_of_getElem? hx) rfl
                have ht3 : top.length = 3 := by rw [HTL.out, ← HN.out, h16]; rfl
                obtain ⟨b7, o7, t1, hA7, hSb7, ht1, z2⟩ := iaAt hrt7 (show 1 < top.length by omega)
                injection hA7 with hA7
                injection hA7 with hA7a hA7b
                subst hA7a
                subst hA7b
                have HT1 := Lib.hid (getD_of ht1)
                have HB72 := Lib.hid hb7
                have ht1l : (1 : Int) < (top.length : Int) := by omega
                have HT3 := Lib.hid ht3
                clear hx ht ht1 hSb7 hSb8 hSb9 h16 hok hb7 hrt7 ht3
                by_cases he : t = t1
                · have heq : (t != t1) = false := by simp [he]
                  have HE := Lib.hid (show okW top wl j by unfold okW; rw [HX.out, if_pos rfl, HT.out, HT1.out]; exact he)
                  clear he
                  go_wp2
                  go_roundg (wl.length - j)
                  case measure => omega
                  case rel => exact ⟨j + 1, by omega, by omega, by go_num, fun i q => by
                    rcases Nat.lt_succ_iff_lt_or_eq.1 q with h' | rfl
                    · exact HOK.out i h'
                    · exact HE.out, HB72.out⟩
                · have heq : (t != t1) = true := by simp [he]
                  have HNO := Lib.hid (show ¬ okW top wl j by unfold okW; rw [HX.out, if_pos rfl, HT.out, HT1.out]; exact he)
                  have HE := Lib.hid (HVP.out.trans (run_err HRU.out (step10 (c := ⟨op, a⟩) HO0.out HAG.out (by rw [HN.out]; exact HML.out) (by rw [HR.out, HTOP.out]; exact HKW.out.2 j hjl HNO.out))))
                  clear he
                  go_wp2
                  go_ret2
                  exact RetVf.of HE.out HB7.out
              case neg =>
                have hxb : (x == 0) = false := by simpa using hx0
                have HB72 := Lib.hid hb7
                have HX0 := Lib.hid hx0
                clear hx ht hSb8 hSb9 hok hb7 hrt7 hx0
                by_cases he : t = x
                · have heq : (t != x) = false := by simp [he]
                  have HE := Lib.hid (show okW top wl j by unfold okW; rw [HX.out, if_neg HX0.out, HT.out]; exact he)
                  clear he
                  go_wp2
                  go_roundg (wl.length - j)
                  case measure => omega
                  case rel => exact ⟨j + 1, by omega, by omega, by go_num, fun i q => by
                    rcases Nat.lt_succ_iff_lt_or_eq.1 q with h' | rfl
                    · exact HOK.out i h'
                    · exact HE.out, HB72.out⟩
                · have heq : (t != x) = true := by simp [he]
                  have HNO := Lib.hid (show ¬ okW top wl j by unfold okW; rw [HX.out, if_neg HX0.out, HT.out]; exact he)
                  have HE := Lib.hid (HVP.out.trans (run_err HRU.out (step10 (c := ⟨op, a⟩) HO0.out HAG.out (by rw [HN.out]; exact HML.out) (by rw [HR.out, HTOP.out]; exact HKW.out.2 j hjl HNO.out))))
                  clear he
                  go_wp2
                  go_ret2
                  exact RetVf.of HE.out HB7.out
            obtain rfl : j = wl.length := by omega
            have hp7 := (hb7.block w.heap.size (by omega)).trans HP6.out
            have hi7 := (hb7.block wx.heap.size (by omega)).trans HI6.out
            have HP7 := Lib.hid hp7
            have HI7 := Lib.hid hi7
            have HB72 := Lib.hid (below_two HB62.out hb7 HB62.out.size)
            have HO7 := Lib.hid (own_below HO6.out hb7 (Nat.le_refl _))
            have HT7 := Lib.hid (HT6.out.mono IaC.mono (S' := Old w7) (w' := w7) (fun b q => Nat.lt_of_lt_of_le q hs7) (keepOn_below hb7 fun _ q => q))
            obtain ⟨kk, hkk, hkz⟩ := HKW.out.1 hok
            have HST := Lib.hid (stepN (c := ⟨op, a⟩) HO0.out HAG.out (by rw [HN.out]; exact HML.out) (by rw [HR.out, HTOP.out]; exact hkk))
            dsimp only at HST hkz
            have i0 : w7.cell? ⟨wx.heap.size, 0, Option.none⟩ = some (.int .i64 op) := by simp [World.cell?, hi7]
            have hl7 : w.heap.size < w7.heap.size := by omega
            have hl7i : wx.heap.size < w7.heap.size := by omega
            have hbase7 : ws.heap.size ≤ w7.heap.size := HB72.out.size
            obtain ⟨tn, htn, hn0, hn1, hn2⟩ := info_parts infoI7
            have HTN := Lib.hid (And.intro htn (And.intro hn0 (And.intro hn1 hn2)))
            have HNEW := Lib.hid (World.ownsRow_made (e := 3) (size := 1) w7 #[] 0 (Nat.le_refl _) (Nat.zero_le _) rfl)
            have HBN := Lib.hid (box_below w7 (Obj.cells #[] 3))
            have hbn := HBN.out
            have HSRC := Lib.hid (ia_src7 (rw_take7 ((own_ia HO7.out rfl).mono IaC.mono (S' := Old (w7.alloc (Obj.cells #[] 3))) (w' := w7.alloc (Obj.cells #[] 3)) (fun b q => Nat.lt_of_lt_of_le q hbn.size) (keepOn_below hbn fun _ q => q)) hrl))
            have hz1 : 0 + r ≤ maxLen := by unfold maxLen; omega
            have hz2 : (0 + r) * 8 ≤ 140737488355328 := by omega
            have hz3 : w7.heap.size ≤ (w7.alloc (Obj.cells #[] 3)).heap.size := by rw [World.size_alloc]; omega
            have HKZ := Lib.hid hkz
            clear hp7 hi7 hb7 hkk hkz htn hn0 hn1 hn2 hbn hok hjl HKW HB62 HO6 HT6 HP6 HI6
            by_cases h32 : op = 32
            case pos =>
              have h32b : (op == 32) = true := by simpa using h32
              have h16b : (op == 16) = false := by simp; omega
              have hwz0 : wz = 0 := by rw [← HWZV.out, h32]; rfl
              have HST2 := Lib.hid (HST.out.trans (if_pos h32))
              clear h32
              subst hwz0
              go_upto_region 48 with (at_builtin; refine wpList_append_src (o := ⟨some 167, _, _, _, _, _⟩) (w := w7.alloc (Obj.cells #[] 3)) _ _ 38 rfl rfl Tryz.underlying38 HTN.out.1 HTN.out.2.1 HTN.out.2.2.1 HTN.out.2.2.2 rfl (by decide) rfl HNEW.out HBN.out rfl HSRC.out (int_one _) hz1 hz2 hz3 ?_; intro v9 w9 hown9 hb9 hs9; have HO9 := Lib.hid hown9; have HB9 := Lib.hid hb9; clear hown9 hb9)
              have HO9' : Hid (w9.ownsRow w7.heap.size 3 1 v9 r ((v.st.take r).map (Value.int .i64))) := Lib.hid (by simpa using HO9.out)
              obtain ⟨A9, c9, rfl, hc9, hm9⟩ := own_shape HO9'.out
              have hp9 := (HB9.out.block w.heap.size hl7).trans HP7.out
              have hi9 := (HB9.out.block wx.heap.size hl7i).trans HI7.out
              have i0 : w9.cell? ⟨wx.heap.size, 0, Option.none⟩ = some (.int .i64 op) := by simp [World.cell?, hi9]
              have hl9 : w.heap.size < w9.heap.size := by omega
              have hl9i : wx.heap.size < w9.heap.size := by omega
              have HBW9 := Lib.hid (below_two HB7.out HB9.out HB7.out.size)
              have HBX9 := Lib.hid (below_two HB72.out HB9.out HB72.out.size)
              clear hp9 hi9
              have i1 : w9.frozen? ⟨wx.heap.size, 1, Option.none⟩ = w9.frozen? ⟨wx.heap.size, 1, Option.none⟩ := rfl
              clear i1
              by_cases hr0 : 0 < r
              · have hrp : (0 : Int) < (r : Int) := by omega
                have hre : (r == 0) = false := by simp; omega
                have HE := Lib.hid (HVP.out.trans (run_err HRU.out (HST2.out.trans (by rw [HR.out, if_pos hr0]))))
                go_wp2
                go_ret2
                exact RetVf.of HE.out HBW9.out
              · have HE := Lib.hid (run_ok HRU.out (HST2.out.trans (by rw [HR.out, if_neg hr0])))
                obtain rfl : r = 0 := by omega
                clear hr0
                go_wp2
                go_roundg (p.code.length - k)
                case measure => omega
                case rel =>
                  refine ⟨k + 1, _, _, by omega, by omega, by go_num, ?_, ?_, HE.out, ?_, ?_, ?_, ?_, HBX9.out⟩
                  · first | rfl | go_num
                  · first | rfl | go_num
                  · dsimp only
                    rw [List.length_take]
                    omega
                  · first | omega | (dsimp only; omega) | (simp; omega)
                  · first | omega | (dsimp only; omega) | (simp; omega)
                  · dsimp only
                    rw [show (v.st.take 0).length = 0 from rfl]
                    exact own_base HO9'.out hbase7
            case neg =>
              have HKK0 := Lib.hid (HKZ.out h32)
              have h32b : (op == 32) = false := by simpa using h32
              have HST2 := Lib.hid (HST.out.trans (if_neg h32))
              by_cases h16 : op = 16
              case pos =>
                subst h16
                obtain rfl : 0 = wz := HWZV.out
                have ht3 : top.length = 3 := by rw [HTL.out, ← HN.out]; rfl
                obtain ⟨b7, o7, t1, hA7, hSb7, ht1, z2⟩ := iaAt HT7.out (show 1 < top.length by omega)
                subst hA7
                have hbk7 : b7 < w7.heap.size := hSb7
                have ht1l : (1 : Int) < (top.length : Int) := by omega
                have HKK := Lib.hid (show kk = t1 by rw [HKK0.out, if_pos ⟨rfl, rfl⟩]; exact getD_of ht1)
                clear ht1 hSb7 h32 ht3
                go_upto_region 48 with (at_builtin; refine wpList_append_src (o := ⟨some 167, _, _, _, _, _⟩) (w := w7.alloc (Obj.cells #[] 3)) _ _ 38 rfl rfl Tryz.underlying38 HTN.out.1 HTN.out.2.1 HTN.out.2.2.1 HTN.out.2.2.2 rfl (by decide) rfl HNEW.out HBN.out rfl HSRC.out (int_one _) hz1 hz2 hz3 ?_; intro v9 w9 hown9 hb9 hs9; have HO9 := Lib.hid hown9; have HB9 := Lib.hid hb9; clear hown9 hb9)
                have HO9' : Hid (w9.ownsRow w7.heap.size 3 1 v9 r ((v.st.take r).map (Value.int .i64))) := Lib.hid (by simpa using HO9.out)
                obtain ⟨A9, c9, rfl, hc9, hm9⟩ := own_shape HO9'.out
                have hp9 := (HB9.out.block w.heap.size hl7).trans HP7.out
                have hi9 := (HB9.out.block wx.heap.size hl7i).trans HI7.out
                have i0 : w9.cell? ⟨wx.heap.size, 0, Option.none⟩ = some (.int .i64 16) := by simp [World.cell?, hi9]
                have hl9 : w.heap.size < w9.heap.size := by omega
                have hl9i : wx.heap.size < w9.heap.size := by omega
                have HBW9 := Lib.hid (below_two HB7.out HB9.out HB7.out.size)
                have HBX9 := Lib.hid (below_two HB72.out HB9.out HB72.out.size)
                clear hp9 hi9
                have HHC := Lib.hid (fun W => (show Calls Tryz.prog 32 #[.int .i64 16] W (RetBs false W) from rhas_any 16 W))
                have HKB : Hid (keptB 16 = false) := Lib.hid rfl
                have HOX := Lib.hid (HO9'.out.alloc (Obj.cells #[.int .i64 t1] 3))
                have HBB := Lib.hid (HB9.out.alloc (by omega) (Obj.cells #[.int .i64 t1] 3))
                have HSB := Lib.hid (src_box w9 [.int .i64 t1] 3 1 1 rfl)
                have hy1 : r + 1 ≤ maxLen := by unfold maxLen; omega
                have hy2 : (r + 1) * 8 ≤ 140737488355328 := by omega
                have hy3 : w7.heap.size ≤ (w9.alloc (Obj.cells #[.int .i64 t1] 3)).heap.size := by rw [World.size_alloc]; omega
                have HTK : Hid (((v.st.take r).map (Value.int .i64) ++ [.int .i64 t1]) = (v.st.take r ++ [kk]).map (Value.int .i64)) := Lib.hid (by rw [HKK.out]; simp)
                by_cases h24b : 24 < r + 1
                · have hgt : (24 : Int) < (r : Int) + 1 := by omega
                  have HE := Lib.hid (HVP.out.trans (run_err HRU.out (HST2.out.trans (by rw [HR.out, if_pos h24b]))))
                  clear h24b
                  all_goals
                    go_wp2_with (first | (refine (HHC.out _).mono ?_; rintro e8 w8 ⟨rfl, rfl⟩) | (at_builtin; refine wpList_append_src (o := ⟨some 185, _, _, _, _, _⟩) (w := w9.alloc (Obj.cells #[.int .i64 t1] 3)) _ _ 38 rfl rfl Tryz.underlying38 HTN.out.1 HTN.out.2.1 HTN.out.2.2.1 HTN.out.2.2.2 rfl (by decide) rfl HOX.out HBB.out rfl HSB.out (by intro u hu; rw [List.mem_singleton.1 hu]; rfl) hy1 hy2 hy3 ?_; intro v10 w10 hown10 hb10 hs10; have HO10 := Lib.hid hown10; have HB10 := Lib.hid hb10; clear hown10 hb10; obtain ⟨A10, c10, rfl, hc10, hm10⟩ := own_shape HO10.out))
                    go_ret2
                    exact RetVf.of HE.out (below_two HB7.out HB10.out HB7.out.size)
                · have hgt : ¬ (24 : Int) < (r : Int) + 1 := by omega
                  have HE := Lib.hid (run_ok HRU.out (HST2.out.trans (by rw [HR.out, if_neg h24b, HKB.out])))
                  all_goals
                    go_wp2_with (first | (refine (HHC.out _).mono ?_; rintro e8 w8 ⟨rfl, rfl⟩) | (at_builtin; refine wpList_append_src (o := ⟨some 185, _, _, _, _, _⟩) (w := w9.alloc (Obj.cells #[.int .i64 t1] 3)) _ _ 38 rfl rfl Tryz.underlying38 HTN.out.1 HTN.out.2.1 HTN.out.2.2.1 HTN.out.2.2.2 rfl (by decide) rfl HOX.out HBB.out rfl HSB.out (by intro u hu; rw [List.mem_singleton.1 hu]; rfl) hy1 hy2 hy3 ?_; intro v10 w10 hown10 hb10 hs10; have HO10 := Lib.hid hown10; have HB10 := Lib.hid hb10; clear hown10 hb10; obtain ⟨A10, c10, rfl, hc10, hm10⟩ := own_shape HO10.out))
                    go_roundg (p.code.length - k)
                    case measure => omega
                    case rel =>
                      have hlen : (v.st.take r ++ [kk]).length = r + 1 := by rw [List.length_append, List.length_take, List.length_singleton]; omega
                      have hrow : w10.ownsRow w7.heap.size 3 1 (.slice A10 (r + 1) c10) (r + 1) ((v.st.take r ++ [kk]).map (Value.int .i64)) := by rw [← HTK.out]; exact HO10.out
                      refine ⟨k + 1, _, _, by omega, by omega, by go_num, ?_, ?_, HE.out, ?_, ?_, ?_, ?_, below_two HB72.out HB10.out HB72.out.size⟩
                      · first | rfl | go_num
                      · first | rfl | go_num
                      · dsimp only; rw [hlen]; omega
                      · first | omega | (dsimp only; omega) | (simp; omega)
                      · first | omega | (dsimp only; omega) | (simp; omega)
                      · dsimp only; rw [hlen]; exact own_base hrow hbase7
              case neg =>
                have h16b : (op == 16) = false := by simpa using h16
                have HKK := Lib.hid (show kk = wz by rw [HKK0.out, if_neg (fun q => h16 q.2)])
                rcases (Decidable.em (wz = 0)) with hw0 | hw0
                · subst hw0
                  clear h32 h16
                  go_upto_region 48 with (at_builtin; refine wpList_append_src (o := ⟨some 167, _, _, _, _, _⟩) (w := w7.alloc (Obj.cells #[] 3)) _ _ 38 rfl rfl Tryz.underlying38 HTN.out.1 HTN.out.2.1 HTN.out.2.2.1 HTN.out.2.2.2 rfl (by decide) rfl HNEW.out HBN.out rfl HSRC.out (int_one _) hz1 hz2 hz3 ?_; intro v9 w9 hown9 hb9 hs9; have HO9 := Lib.hid hown9; have HB9 := Lib.hid hb9; clear hown9 hb9)
                  have HO9' : Hid (w9.ownsRow w7.heap.size 3 1 v9 r ((v.st.take r).map (Value.int .i64))) := Lib.hid (by simpa using HO9.out)
                  obtain ⟨A9, c9, rfl, hc9, hm9⟩ := own_shape HO9'.out
                  have hp9 := (HB9.out.block w.heap.size hl7).trans HP7.out
                  have hi9 := (HB9.out.block wx.heap.size hl7i).trans HI7.out
                  have i0 : w9.cell? ⟨wx.heap.size, 0, Option.none⟩ = some (.int .i64 op) := by simp [World.cell?, hi9]
                  have hl9 : w.heap.size < w9.heap.size := by omega
                  have hl9i : wx.heap.size < w9.heap.size := by omega
                  have HBW9 := Lib.hid (below_two HB7.out HB9.out HB7.out.size)
                  have HBX9 := Lib.hid (below_two HB72.out HB9.out HB72.out.size)
                  clear hp9 hi9
                  obtain ⟨kb, hkb⟩ : ∃ kb, keptB op = kb := ⟨_, rfl⟩
                  have hhc := fun W => rhas_any op W
                  simp only [hkb] at hhc
                  have HHC := Lib.hid hhc
                  have HKB := Lib.hid hkb
                  have HOX := Lib.hid (HO9'.out.alloc (Obj.cells #[.int .i64 0] 3))
                  have HBB := Lib.hid (HB9.out.alloc (by omega) (Obj.cells #[.int .i64 0] 3))
                  have HSB := Lib.hid (src_box w9 [.int .i64 0] 3 1 1 rfl)
                  have hy1 : r + 1 ≤ maxLen := by unfold maxLen; omega
                  have hy2 : (r + 1) * 8 ≤ 140737488355328 := by omega
                  have hy3 : w7.heap.size ≤ (w9.alloc (Obj.cells #[.int .i64 0] 3)).heap.size := by rw [World.size_alloc]; omega
                  have HTK : Hid (((v.st.take r).map (Value.int .i64) ++ [.int .i64 0]) = (v.st.take r ++ [kk]).map (Value.int .i64)) := Lib.hid (by rw [HKK.out]; simp)
                  clear hkb hhc
                  by_cases h24b : 24 < r + 1
                  · have hgt : (24 : Int) < (r : Int) + 1 := by omega
                    have HE := Lib.hid (HVP.out.trans (run_err HRU.out (HST2.out.trans (by rw [HR.out, if_pos h24b]))))
                    clear h24b
                    cases kb
                    all_goals
                      go_wp2_with (first | (refine (HHC.out _).mono ?_; rintro e8 w8 ⟨rfl, rfl⟩) | (at_builtin; refine wpList_append_src (o := ⟨some 185, _, _, _, _, _⟩) (w := w9.alloc (Obj.cells #[.int .i64 0] 3)) _ _ 38 rfl rfl Tryz.underlying38 HTN.out.1 HTN.out.2.1 HTN.out.2.2.1 HTN.out.2.2.2 rfl (by decide) rfl HOX.out HBB.out rfl HSB.out (by intro u hu; rw [List.mem_singleton.1 hu]; rfl) hy1 hy2 hy3 ?_; intro v10 w10 hown10 hb10 hs10; have HO10 := Lib.hid hown10; have HB10 := Lib.hid hb10; clear hown10 hb10; obtain ⟨A10, c10, rfl, hc10, hm10⟩ := own_shape HO10.out))
                      go_ret2
                      exact RetVf.of HE.out (below_two HB7.out HB10.out HB7.out.size)
                  · have hgt : ¬ (24 : Int) < (r : Int) + 1 := by omega
                    have HE := Lib.hid (fun b (q : kb = b) => run_ok HRU.out (HST2.out.trans (by rw [HR.out, if_neg h24b, HKB.out, q])))
                    cases kb
                    all_goals
                      go_wp2_with (first | (refine (HHC.out _).mono ?_; rintro e8 w8 ⟨rfl, rfl⟩) | (at_builtin; refine wpList_append_src (o := ⟨some 185, _, _, _, _, _⟩) (w := w9.alloc (Obj.cells #[.int .i64 0] 3)) _ _ 38 rfl rfl Tryz.underlying38 HTN.out.1 HTN.out.2.1 HTN.out.2.2.1 HTN.out.2.2.2 rfl (by decide) rfl HOX.out HBB.out rfl HSB.out (by intro u hu; rw [List.mem_singleton.1 hu]; rfl) hy1 hy2 hy3 ?_; intro v10 w10 hown10 hb10 hs10; have HO10 := Lib.hid hown10; have HB10 := Lib.hid hb10; clear hown10 hb10; obtain ⟨A10, c10, rfl, hc10, hm10⟩ := own_shape HO10.out))
                      go_roundg (p.code.length - k)
                      case measure => omega
                      case rel =>
                        have hlen : (v.st.take r ++ [kk]).length = r + 1 := by rw [List.length_append, List.length_take, List.length_singleton]; omega
                        have hrow : w10.ownsRow w7.heap.size 3 1 (.slice A10 (r + 1) c10) (r + 1) ((v.st.take r ++ [kk]).map (Value.int .i64)) := by rw [← HTK.out]; exact HO10.out
                        refine ⟨k + 1, _, _, by omega, by omega, by go_num, ?_, ?_, HE.out _ rfl, ?_, ?_, ?_, ?_, below_two HB72.out HB10.out HB72.out.size⟩
                        · first | rfl | go_num
                        · first | rfl | go_num
                        · dsimp only; rw [hlen]; omega
                        · first | omega | (dsimp only; omega) | (simp; omega)
                        · first | omega | (dsimp only; omega) | (simp; omega)
                        · dsimp only; rw [hlen]; exact own_base hrow hbase7
                · have hw0b : (wz == 0) = false := by simpa using hw0
                  clear h32 h16 hw0
                  go_upto_region 48 with (at_builtin; refine wpList_append_src (o := ⟨some 167, _, _, _, _, _⟩) (w := w7.alloc (Obj.cells #[] 3)) _ _ 38 rfl rfl Tryz.underlying38 HTN.out.1 HTN.out.2.1 HTN.out.2.2.1 HTN.out.2.2.2 rfl (by decide) rfl HNEW.out HBN.out rfl HSRC.out (int_one _) hz1 hz2 hz3 ?_; intro v9 w9 hown9 hb9 hs9; have HO9 := Lib.hid hown9; have HB9 := Lib.hid hb9; clear hown9 hb9)
                  have HO9' : Hid (w9.ownsRow w7.heap.size 3 1 v9 r ((v.st.take r).map (Value.int .i64))) := Lib.hid (by simpa using HO9.out)
                  obtain ⟨A9, c9, rfl, hc9, hm9⟩ := own_shape HO9'.out
                  have hp9 := (HB9.out.block w.heap.size hl7).trans HP7.out
                  have hi9 := (HB9.out.block wx.heap.size hl7i).trans HI7.out
                  have i0 : w9.cell? ⟨wx.heap.size, 0, Option.none⟩ = some (.int .i64 op) := by simp [World.cell?, hi9]
                  have hl9 : w.heap.size < w9.heap.size := by omega
                  have hl9i : wx.heap.size < w9.heap.size := by omega
                  have HBW9 := Lib.hid (below_two HB7.out HB9.out HB7.out.size)
                  have HBX9 := Lib.hid (below_two HB72.out HB9.out HB72.out.size)
                  clear hp9 hi9
                  obtain ⟨kb, hkb⟩ : ∃ kb, keptB op = kb := ⟨_, rfl⟩
                  have hhc := fun W => rhas_any op W
                  simp only [hkb] at hhc
                  have HHC := Lib.hid hhc
                  have HKB := Lib.hid hkb
                  have HOX := Lib.hid (HO9'.out.alloc (Obj.cells #[.int .i64 wz] 3))
                  have HBB := Lib.hid (HB9.out.alloc (by omega) (Obj.cells #[.int .i64 wz] 3))
                  have HSB := Lib.hid (src_box w9 [.int .i64 wz] 3 1 1 rfl)
                  have hy1 : r + 1 ≤ maxLen := by unfold maxLen; omega
                  have hy2 : (r + 1) * 8 ≤ 140737488355328 := by omega
                  have hy3 : w7.heap.size ≤ (w9.alloc (Obj.cells #[.int .i64 wz] 3)).heap.size := by rw [World.size_alloc]; omega
                  have HTK : Hid (((v.st.take r).map (Value.int .i64) ++ [.int .i64 wz]) = (v.st.take r ++ [kk]).map (Value.int .i64)) := Lib.hid (by rw [HKK.out]; simp)
                  clear hkb hhc
                  by_cases h24b : 24 < r + 1
                  · have hgt : (24 : Int) < (r : Int) + 1 := by omega
                    have HE := Lib.hid (HVP.out.trans (run_err HRU.out (HST2.out.trans (by rw [HR.out, if_pos h24b]))))
                    clear h24b
                    cases kb
                    all_goals
                      go_wp2_with (first | (refine (HHC.out _).mono ?_; rintro e8 w8 ⟨rfl, rfl⟩) | (at_builtin; refine wpList_append_src (o := ⟨some 185, _, _, _, _, _⟩) (w := w9.alloc (Obj.cells #[.int .i64 wz] 3)) _ _ 38 rfl rfl Tryz.underlying38 HTN.out.1 HTN.out.2.1 HTN.out.2.2.1 HTN.out.2.2.2 rfl (by decide) rfl HOX.out HBB.out rfl HSB.out (by intro u hu; rw [List.mem_singleton.1 hu]; rfl) hy1 hy2 hy3 ?_; intro v10 w10 hown10 hb10 hs10; have HO10 := Lib.hid hown10; have HB10 := Lib.hid hb10; clear hown10 hb10; obtain ⟨A10, c10, rfl, hc10, hm10⟩ := own_shape HO10.out))
                      go_ret2
                      exact RetVf.of HE.out (below_two HB7.out HB10.out HB7.out.size)
                  · have hgt : ¬ (24 : Int) < (r : Int) + 1 := by omega
                    have HE := Lib.hid (fun b (q : kb = b) => run_ok HRU.out (HST2.out.trans (by rw [HR.out, if_neg h24b, HKB.out, q])))
                    cases kb
                    all_goals
                      go_wp2_with (first | (refine (HHC.out _).mono ?_; rintro e8 w8 ⟨rfl, rfl⟩) | (at_builtin; refine wpList_append_src (o := ⟨some 185, _, _, _, _, _⟩) (w := w9.alloc (Obj.cells #[.int .i64 wz] 3)) _ _ 38 rfl rfl Tryz.underlying38 HTN.out.1 HTN.out.2.1 HTN.out.2.2.1 HTN.out.2.2.2 rfl (by decide) rfl HOX.out HBB.out rfl HSB.out (by intro u hu; rw [List.mem_singleton.1 hu]; rfl) hy1 hy2 hy3 ?_; intro v10 w10 hown10 hb10 hs10; have HO10 := Lib.hid hown10; have HB10 := Lib.hid hb10; clear hown10 hb10; obtain ⟨A10, c10, rfl, hc10, hm10⟩ := own_shape HO10.out))
                      go_roundg (p.code.length - k)
                      case measure => omega
                      case rel =>
                        have hlen : (v.st.take r ++ [kk]).length = r + 1 := by rw [List.length_append, List.length_take, List.length_singleton]; omega
                        have hrow : w10.ownsRow w7.heap.size 3 1 (.slice A10 (r + 1) c10) (r + 1) ((v.st.take r ++ [kk]).map (Value.int .i64)) := by rw [← HTK.out]; exact HO10.out
                        refine ⟨k + 1, _, _, by omega, by omega, by go_num, ?_, ?_, HE.out _ rfl, ?_, ?_, ?_, ?_, below_two HB72.out HB10.out HB72.out.size⟩
                        · first | rfl | go_num
                        · first | rfl | go_num
                        · dsimp only; rw [hlen]; omega
                        · first | omega | (dsimp only; omega) | (simp; omega)
                        · first | omega | (dsimp only; omega) | (simp; omega)
                        · dsimp only; rw [hlen]; exact own_base hrow hbase7
end Go.Proofs.YtcikenlflcofbaaGreatDoor
