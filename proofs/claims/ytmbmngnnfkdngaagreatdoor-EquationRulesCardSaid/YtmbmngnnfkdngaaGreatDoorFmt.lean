/-
  The text of an expression: format and Format of the program.
-/
import Derived.Test.YtmbmngnnfkdngaaGreatDoorBk
namespace Go.Proofs.YtmbmngnnfkdngaaGreatDoor
open Go.RowKit

theorem Lw.kp {K : Nat → Prop} {w w' : World} (h : Lw w) (hk : Kp K w w') (h5 : ∀ b, b ≤ 5 → K b) : Lw w' := h.keep hk.size fun b hb => hk.keep b (h5 b hb)
theorem cat_list (a b : List UInt8) : (({ data := a.toArray } : ByteArray) ++ { data := b.toArray }) = ⟨(a ++ b).toArray⟩ := by
  apply ByteArray.ext
  simp
theorem XB.keep {S : Nat → Prop} {w w' : World} {b o : Nat} {op n : Int} {nm : List UInt8} {A : Option Addr} {k c : Nat} (h : XB w b o op n nm A k c) (hk : KeepOn S w w') (hb : S b) : XB w' b o op n nm A k c :=
  ⟨(World.cell?_of_block (a := ⟨b, o, Option.none⟩) (hk b hb)).trans h.c0, (World.cell?_of_block (a := ⟨b, o + 1, Option.none⟩) (hk b hb)).trans h.c1, (World.cell?_of_block (a := ⟨b, o + 2, Option.none⟩) (hk b hb)).trans h.c2, (World.cell?_of_block (a := ⟨b, o + 3, Option.none⟩) (hk b hb)).trans h.c3⟩
def RetFm (B : Nat) (K : Nat → Prop) (bb : Nat) (l : List UInt8) (w : World) (e : Ending) (w' : World) : Prop := e = .returned (.tuple #[]) ∧ BK B K bb l w' ∧ Kp K w w'
def FmtOk (d : Nat) : Prop := ∀ (op n : Int) (nm : List UInt8) (A : Option Addr) (c : Nat) (ks : List Ex) (w : World) (B : Nat) (K : Nat → Prop) (bb : Nat) (l : List UInt8), okG d (.mk op n nm ks) → ks.length ≤ c → c ≤ maxLen → Rw ExV 4 w K A ks.length ks → BK B K bb l w → (∀ b, b ≤ 5 → K b) → Lw w → l.length + (fmtG d (.mk op n nm ks)).length ≤ 140737488355328 →
  Calls Tryz.prog 31 #[.pointer (some ⟨bb, 0, Option.none⟩), exV op n nm A ks.length c] w (RetFm B K bb (l ++ fmtG d (.mk op n nm ks)) w)
/-- What format knows at its beginning: the box of x is one of the blocks that are kept. -/
theorem fm_start {K : Nat → Prop} {B bb : Nat} {l : List UInt8} {w : World} (hb : BK B K bb l w) (o : Obj) : Kp K w (w.alloc o) := Kp.of_below (box_below w o) fun b q => (hb.kt b q).1
theorem fm_end {K : Nat → Prop} {B bb : Nat} {l : List UInt8} {w w' : World} {o : Obj} (hb : BK B K bb l w) {l' : List UInt8} (h1 : BK B (fun b => K b ∨ b = w.heap.size) bb l' w') (h2 : Kp (fun b => K b ∨ b = w.heap.size) (w.alloc o) w') : RetFm B K bb l' w (.returned (.tuple #[])) w' :=
  ⟨rfl, h1.mono fun _ q => .inl q, (fm_start hb o).trans (h2.mono fun _ q => .inl q)⟩

set_option maxRecDepth 100000 in
set_option maxHeartbeats 4000000 in
theorem fmt_bool {d : Nat} (n : Int) (nm : List UInt8) (A : Option Addr) (c : Nat) (ks : List Ex) (w : World) (B : Nat) (K : Nat → Prop) (bb : Nat) (l : List UInt8) (hb : BK B K bb l w) (hlen : l.length + (fmtG (d + 1) (.mk 1 n nm ks)).length ≤ 140737488355328) :
    Calls Tryz.prog 31 #[.pointer (some ⟨bb, 0, Option.none⟩), exV 1 n nm A ks.length c] w (RetFm B K bb (l ++ fmtG (d + 1) (.mk 1 n nm ks)) w) := by
  have hF : fmtG (d + 1) (.mk 1 n nm ks) = boolS (n == 1) := by unfold fmtG; rw [if_pos rfl]; unfold boolS; by_cases h : n = 1 <;> simp [h]
  rw [hF] at hlen ⊢
  have HB := Lib.hid hb
  have HBX := Lib.hid (hb.box #[.int .i64 1, .int .i64 n, .string ⟨nm.toArray⟩, .slice A ks.length c])
  clear hb hF
  unfold exV
  generalize hS : boolS (n == 1) = s at *
  go_enter Tryz.func31, Tryz.ntmps31
  go_wp2_with fail
  refine (fbool_any _ _).mono ?_
  rintro e w1 ⟨rfl, hb1⟩
  have C := ws_keep B bb _ l (boolS (n == 1)) w1 (HBX.out.below hb1) (by rw [hS]; exact hlen)
  rw [hS] at C ⊢
  have HC := Lib.hid C
  have HK1 := Lib.hid (Kp.of_below (K := (fun b => K b ∨ b = w.heap.size)) hb1 fun b q => (HBX.out.kt b q).1)
  clear C hb1
  go_wp2_with fail
  refine HC.out.mono ?_
  rintro e w2 ⟨rfl, hbk, hkp⟩
  go_wp2
  go_end0
  exact fm_end HB.out hbk (HK1.out.trans hkp)

set_option maxRecDepth 100000 in
set_option maxHeartbeats 4000000 in
theorem fmt_num {d : Nat} (n : Int) (nm : List UInt8) (A : Option Addr) (c : Nat) (ks : List Ex) (w : World) (B : Nat) (K : Nat → Prop) (bb : Nat) (l : List UInt8) (hb : BK B K bb l w) (hw : Lw w) (hn : 0 ≤ n ∧ n ≤ 32767) (hlen : l.length + (fmtG (d + 1) (.mk 2 n nm ks)).length ≤ 140737488355328) :
    Calls Tryz.prog 31 #[.pointer (some ⟨bb, 0, Option.none⟩), exV 2 n nm A ks.length c] w (RetFm B K bb (l ++ fmtG (d + 1) (.mk 2 n nm ks)) w) := by
  have hF : fmtG (d + 1) (.mk 2 n nm ks) = Lib.itoa n := by unfold fmtG; rw [if_neg (by decide), if_pos rfl]
  rw [hF] at hlen ⊢
  have HB := Lib.hid hb
  have HBX := Lib.hid (hb.box #[.int .i64 2, .int .i64 n, .string ⟨nm.toArray⟩, .slice A ks.length c])
  have HLW := Lib.hid (hw.below (box_below w (Obj.cells #[.int .i64 2, .int .i64 n, .string ⟨nm.toArray⟩, .slice A ks.length c] 25)))
  clear hw
  clear hb hF
  unfold exV
  generalize hS : Lib.itoa n = s at *
  have C0 := itoa_any n (by omega) (by omega) _ HLW.out
  rw [hS] at C0
  have HC0 := Lib.hid C0
  clear C0 hS
  go_enter Tryz.func31, Tryz.ntmps31
  go_wp2_with fail
  refine HC0.out.mono ?_
  rintro e w1 ⟨rfl, hb1⟩
  have HC := Lib.hid (ws_keep B bb _ l s w1 (HBX.out.below hb1) hlen)
  have HK1 := Lib.hid (Kp.of_below (K := (fun b => K b ∨ b = w.heap.size)) hb1 fun b q => (HBX.out.kt b q).1)
  clear hb1
  go_wp2_with fail
  refine HC.out.mono ?_
  rintro e w2 ⟨rfl, hbk, hkp⟩
  go_wp2
  go_end0
  exact fm_end HB.out hbk (HK1.out.trans hkp)

set_option maxRecDepth 100000 in
set_option maxHeartbeats 4000000 in
theorem fmt_name {d : Nat} (n : Int) (nm : List UInt8) (A : Option Addr) (c : Nat) (ks : List Ex) (w : World) (B : Nat) (K : Nat → Prop) (bb : Nat) (l : List UInt8) (hb : BK B K bb l w) (hlen : l.length + (fmtG (d + 1) (.mk 3 n nm ks)).length ≤ 140737488355328) :
    Calls Tryz.prog 31 #[.pointer (some ⟨bb, 0, Option.none⟩), exV 3 n nm A ks.length c] w (RetFm B K bb (l ++ fmtG (d + 1) (.mk 3 n nm ks)) w) := by
  have hF : fmtG (d + 1) (.mk 3 n nm ks) = nm := by unfold fmtG; rw [if_neg (by decide), if_neg (by decide), if_pos rfl]
  rw [hF] at hlen ⊢
  have HB := Lib.hid hb
  have HBX := Lib.hid (hb.box #[.int .i64 3, .int .i64 n, .string ⟨nm.toArray⟩, .slice A ks.length c])
  clear hb hF
  unfold exV
  generalize hS : nm = s at *
  subst hS
  have HC := Lib.hid (ws_keep B bb _ l nm _ HBX.out hlen)
  go_enter Tryz.func31, Tryz.ntmps31
  go_wp2_with fail
  refine HC.out.mono ?_
  rintro e w2 ⟨rfl, hbk, hkp⟩
  go_wp2
  go_end0
  exact fm_end HB.out hbk hkp

set_option maxRecDepth 100000 in
set_option maxHeartbeats 4000000 in
theorem fmt_not {d : Nat} (hF : FmtOk d) (A : Option Addr) (c : Nat) (x : Ex) (w : World) (B : Nat) (K : Nat → Prop) (bb : Nat) (l : List UInt8) (hk : okG d x) (hr : Rw ExV 4 w K A 1 [x]) (hb : BK B K bb l w) (h5 : ∀ b, b ≤ 5 → K b) (hw : Lw w) (hlen : l.length + ([40, 110, 111, 116, 32] ++ fmtG d x ++ [41]).length ≤ 140737488355328) :
    Calls Tryz.prog 31 #[.pointer (some ⟨bb, 0, Option.none⟩), exV 4 0 [] A 1 c] w (RetFm B K bb (l ++ ([40, 110, 111, 116, 32] ++ fmtG d x ++ [41])) w) := by
  obtain ⟨b, o, op2, n2, nm2, A2, c2, ys, hA, hSb, hky, hc2, hm2, hp2, hr2, hxb⟩ := exAt hr (k := 0) (by omega)
  obtain rfl : x = .mk op2 n2 nm2 ys := by simpa using hky
  subst hA
  have hlen' : l.length + 5 + (fmtG d (.mk op2 n2 nm2 ys)).length + 1 ≤ 140737488355328 := by
    simp only [List.length_append, List.length_cons, List.length_nil] at hlen
    omega
  have HB := Lib.hid hb
  have hX0 := XV.new w 4 0 [] (some ⟨b, o, Option.none⟩) 1 c
  have HBK0 := Lib.hid (hb.box #[.int .i64 4, .int .i64 0, .string ⟨#[]⟩, .slice (some ⟨b, o, Option.none⟩) 1 c])
  have HKP0 := Lib.hid (Kp.refl (fun b => K b ∨ b = w.heap.size) (w.alloc (Obj.cells #[.int .i64 4, .int .i64 0, .string ⟨#[]⟩, .slice (some ⟨b, o, Option.none⟩) 1 c] 25)))
  have HKPs := Lib.hid (fm_start hb (Obj.cells #[.int .i64 4, .int .i64 0, .string ⟨#[]⟩, .slice (some ⟨b, o, Option.none⟩) 1 c] 25))
  have HX := Lib.hid hX0
  have HF := Lib.hid hF
  have HR2 := Lib.hid hr2
  have HXB := Lib.hid hxb
  have HW := Lib.hid hw
  have H5 := Lib.hid h5
  have HSB := Lib.hid hSb
  have HOK := Lib.hid hk
  clear hb hX0 hF hr2 hxb hw h5 hSb hk hr hky hp2 hlen
  unfold exV
  go_enter Tryz.func31, Tryz.ntmps31
  have HC0 := Lib.hid (ws_keep B bb _ l [40, 110, 111, 116, 32] _ HBK0.out (by simp only [List.length_cons, List.length_nil]; omega))
  go_wp2_with fail
  refine HC0.out.mono ?_
  rintro e w1 ⟨rfl, hbk, hkp⟩
  have HBK1 := Lib.hid hbk
  have HKP1 := Lib.hid (HKP0.out.trans hkp)
  clear hbk hkp HC0
  have X1 := HX.out.keep HKP1.out.keep (.inr rfl)
  obtain ⟨x0, x1, x2, x3, -, -, -, -⟩ := X1.cells
  have kp1 := (HKPs.out.trans (HKP1.out.mono fun b q => .inl q))
  have hxb1 := XB.keep HXB.out kp1.keep HSB.out
  obtain ⟨y0, y1, y2, y3⟩ := hxb1
  simp only [Nat.zero_mul, Nat.add_zero] at y0 y1 y2 y3
  have C1 := HF.out op2 n2 nm2 A2 c2 ys w1 B _ bb (l ++ [40, 110, 111, 116, 32]) HOK.out hc2 hm2 (HR2.out.mono ExV.mono (fun b q => .inl q) kp1.keep) HBK1.out (fun b q => .inl (H5.out b q)) (HW.out.kp kp1 H5.out) (by simp only [List.length_append, List.length_cons, List.length_nil]; omega)
  unfold exV at C1
  have HC1 := Lib.hid C1
  clear X1 kp1 C1
  go_wp2_with fail
  refine HC1.out.mono ?_
  rintro e w2 ⟨rfl, hbk, hkp⟩
  have HBK2 := Lib.hid hbk
  have HKP2 := Lib.hid (HKP1.out.trans hkp)
  clear hbk hkp HC1
  have HC2 := Lib.hid (ws_keep B bb _ (l ++ [40, 110, 111, 116, 32] ++ fmtG d (.mk op2 n2 nm2 ys)) [41] w2 HBK2.out (by simp only [List.length_append, List.length_cons, List.length_nil]; omega))
  go_wp2_with fail
  refine HC2.out.mono ?_
  rintro e w3 ⟨rfl, hbk, hkp⟩
  have HBK3 := Lib.hid hbk
  have HKP3 := Lib.hid (HKP2.out.trans hkp)
  clear hbk hkp HC2
  go_wp2
  go_end0
  have := fm_end HB.out HBK3.out HKP3.out
  simpa [List.append_assoc] using this

set_option maxRecDepth 100000 in
set_option maxHeartbeats 4000000 in
theorem fmt_infix {d : Nat} (hF : FmtOk d) (op : Int) (A : Option Addr) (c : Nat) (x z : Ex) (w : World) (B : Nat) (K : Nat → Prop) (bb : Nat) (l : List UInt8) (hop : 5 ≤ op ∧ op ≤ 12) (hk : okG d x) (hkz : okG d z) (hr : Rw ExV 4 w K A 2 [x, z]) (hb : BK B K bb l w) (h5 : ∀ b, b ≤ 5 → K b) (hw : Lw w) (hlen : l.length + ([40] ++ fmtG d x ++ ([32] ++ wordP op ++ [32]) ++ fmtG d z ++ [41]).length ≤ 140737488355328) :
    Calls Tryz.prog 31 #[.pointer (some ⟨bb, 0, Option.none⟩), exV op 0 [] A 2 c] w (RetFm B K bb (l ++ ([40] ++ fmtG d x ++ ([32] ++ wordP op ++ [32]) ++ fmtG d z ++ [41])) w) := by
  obtain ⟨b, o, op2, n2, nm2, A2, c2, ys, hA, hSb, hky, hc2, hm2, hp2, hr2, hxb⟩ := exAt hr (k := 0) (by omega)
  obtain rfl : x = .mk op2 n2 nm2 ys := by simpa using hky
  subst hA
  obtain ⟨b', o', op3, n3, nm3, A3, c3, zs, hA', hSb', hkz', hc3, hm3, hp3, hr3, hxc⟩ := exAt hr (k := 1) (by omega)
  obtain rfl : z = .mk op3 n3 nm3 zs := by simpa using hkz'
  injection hA' with hA'
  injection hA' with hb' ho'
  subst hb'
  subst ho'
  have hlen' : l.length + 1 + (fmtG d (.mk op2 n2 nm2 ys)).length + (1 + (wordP op).length + 1) + (fmtG d (.mk op3 n3 nm3 zs)).length + 1 ≤ 140737488355328 := by
    simp only [List.length_append, List.length_cons, List.length_nil] at hlen
    omega
  have HB := Lib.hid hb
  have hX0 := XV.new w op 0 [] (some ⟨b, o, Option.none⟩) 2 c
  have HBK0 := Lib.hid (hb.box #[.int .i64 op, .int .i64 0, .string ⟨#[]⟩, .slice (some ⟨b, o, Option.none⟩) 2 c])
  have HKP0 := Lib.hid (Kp.refl (fun b => K b ∨ b = w.heap.size) (w.alloc (Obj.cells #[.int .i64 op, .int .i64 0, .string ⟨#[]⟩, .slice (some ⟨b, o, Option.none⟩) 2 c] 25)))
  have HKPs := Lib.hid (fm_start hb (Obj.cells #[.int .i64 op, .int .i64 0, .string ⟨#[]⟩, .slice (some ⟨b, o, Option.none⟩) 2 c] 25))
  have HX := Lib.hid hX0
  have HF := Lib.hid hF
  have HR2 := Lib.hid hr2
  have HR3 := Lib.hid hr3
  have HXB := Lib.hid hxb
  have HXC := Lib.hid hxc
  have HW := Lib.hid hw
  have H5 := Lib.hid h5
  have HSB := Lib.hid hSb
  have HOK := Lib.hid hk
  have HOZ := Lib.hid hkz
  have CI := fun W => infix_any op W
  rw [show infixB op = true by unfold infixB; simp [hop]] at CI
  have HCI := Lib.hid CI
  have CW := fun W => word_any op (by omega) (by omega) W
  obtain ⟨wd, hwd⟩ : ∃ wd, wordP op = wd := ⟨_, rfl⟩
  rw [hwd] at CW hlen' ⊢
  have HCW := Lib.hid CW
  have e1 : (op == 1) = false := by simp; omega
  have e2 : (op == 2) = false := by simp; omega
  have e3 : (op == 3) = false := by simp; omega
  have e4 : (op == 4) = false := by simp; omega
  clear hb hX0 hF hr2 hr3 hxb hxc hw h5 hSb hSb' hk hkz hkz' hr hky hp2 hp3 hlen CI CW hwd hop
  unfold exV
  go_enter Tryz.func31, Tryz.ntmps31
  go_wp2_with fail
  refine (HCI.out _).mono ?_
  rintro e w9 ⟨rfl, rfl⟩
  have HC0 := Lib.hid (ws_keep B bb _ l [40] _ HBK0.out (by simp only [List.length_cons, List.length_nil]; omega))
  go_wp2_with fail
  refine HC0.out.mono ?_
  rintro e w1 ⟨rfl, hbk, hkp⟩
  have HBK1 := Lib.hid hbk
  have HKP1 := Lib.hid (HKP0.out.trans hkp)
  clear hbk hkp HC0
  have X1 := HX.out.keep HKP1.out.keep (.inr rfl)
  obtain ⟨x0, x1, x2, x3, -, -, -, -⟩ := X1.cells
  have kp1 := (HKPs.out.trans (HKP1.out.mono fun b q => .inl q))
  have hxb1 := XB.keep HXB.out kp1.keep HSB.out
  obtain ⟨y0, y1, y2, y3⟩ := hxb1
  simp only [Nat.zero_mul, Nat.add_zero] at y0 y1 y2 y3
  have C1 := HF.out op2 n2 nm2 A2 c2 ys w1 B _ bb (l ++ [40]) HOK.out hc2 hm2 (HR2.out.mono ExV.mono (fun b q => .inl q) kp1.keep) HBK1.out (fun b q => .inl (H5.out b q)) (HW.out.kp kp1 H5.out) (by simp only [List.length_append, List.length_cons, List.length_nil]; omega)
  unfold exV at C1
  have HC1 := Lib.hid C1
  clear X1 kp1 C1
  go_wp2_with fail
  refine HC1.out.mono ?_
  rintro e w2 ⟨rfl, hbk, hkp⟩
  have HBK2 := Lib.hid hbk
  have HKP2 := Lib.hid (HKP1.out.trans hkp)
  have X2 := HX.out.keep HKP2.out.keep (.inr rfl)
  clear hbk hkp HC1 x0 x1 x2 x3 y0 y1 y2 y3
  obtain ⟨x0, x1, x2, x3, -, -, -, -⟩ := X2.cells
  clear X2
  go_wp2_with fail
  refine (HCW.out _).mono ?_
  rintro e w3 ⟨rfl, hb3⟩
  have HBK3 := Lib.hid (HBK2.out.below hb3)
  have HKP3 := Lib.hid (HKP2.out.trans (Kp.of_below hb3 fun b q => (HBK2.out.kt b q).1))
  clear hb3
  have hcat : ({ data := #[32] } : ByteArray) ++ { data := wd.toArray } = ⟨([32] ++ wd).toArray⟩ := cat_list [32] wd
  have hcat2 : ({ data := ([32] ++ wd).toArray } : ByteArray) ++ { data := #[32] } = ⟨([32] ++ wd ++ [32]).toArray⟩ := cat_list ([32] ++ wd) [32]
  have HC3 := Lib.hid (ws_keep B bb _ (l ++ [40] ++ fmtG d (.mk op2 n2 nm2 ys)) ([32] ++ wd ++ [32]) w3 HBK3.out (by simp only [List.length_append, List.length_cons, List.length_nil]; omega))
  obtain ⟨sw, hsw⟩ : ∃ sw, [32] ++ wd ++ [32] = sw := ⟨_, rfl⟩
  rw [hsw] at hcat2 HC3
  obtain ⟨sv, hsv⟩ : ∃ sv, [32] ++ wd = sv := ⟨_, rfl⟩
  rw [hsv] at hcat hcat2
  have hsvl : sv.length + 1 ≤ 1407374883553280 := by rw [← hsv]; simp only [List.length_append, List.length_cons, List.length_nil]; omega
  have HSW := Lib.hid hsw
  clear hsw hsv
  go_wp2_with fail
  refine HC3.out.mono ?_
  rintro e w4 ⟨rfl, hbk, hkp⟩
  have HBK4 := Lib.hid hbk
  have HKP4 := Lib.hid (HKP3.out.trans hkp)
  have X4 := HX.out.keep HKP4.out.keep (.inr rfl)
  clear hbk hkp HC3 x0 x1 x2 x3 hcat hcat2
  obtain ⟨x0, x1, x2, x3, -, -, -, -⟩ := X4.cells
  have kp4 := (HKPs.out.trans (HKP4.out.mono fun b q => .inl q))
  have hxb4 := XB.keep HXC.out kp4.keep HSB.out
  obtain ⟨y0, y1, y2, y3⟩ := hxb4
  simp only [Nat.one_mul] at y0 y1 y2 y3
  have C4 := HF.out op3 n3 nm3 A3 c3 zs w4 B _ bb (l ++ [40] ++ fmtG d (.mk op2 n2 nm2 ys) ++ sw) HOZ.out hc3 hm3 (HR3.out.mono ExV.mono (fun b q => .inl q) kp4.keep) HBK4.out (fun b q => .inl (H5.out b q)) (HW.out.kp kp4 H5.out) (by rw [← HSW.out]; simp only [List.length_append, List.length_cons, List.length_nil]; omega)
  unfold exV at C4
  have HC4 := Lib.hid C4
  clear X4 kp4 C4
  go_wp2_with fail
  refine HC4.out.mono ?_
  rintro e w5 ⟨rfl, hbk, hkp⟩
  have HBK5 := Lib.hid hbk
  have HKP5 := Lib.hid (HKP4.out.trans hkp)
  clear hbk hkp HC4 x0 x1 x2 x3 y0 y1 y2 y3
  have HC5 := Lib.hid (ws_keep B bb _ (l ++ [40] ++ fmtG d (.mk op2 n2 nm2 ys) ++ sw ++ fmtG d (.mk op3 n3 nm3 zs)) [41] w5 HBK5.out (by rw [← HSW.out]; simp only [List.length_append, List.length_cons, List.length_nil]; omega))
  go_wp2_with fail
  refine HC5.out.mono ?_
  rintro e w6 ⟨rfl, hbk, hkp⟩
  have HBK6 := Lib.hid hbk
  have HKP6 := Lib.hid (HKP5.out.trans hkp)
  clear hbk hkp HC5
  go_wp2
  go_end0
  have := fm_end HB.out HBK6.out HKP6.out
  rw [← HSW.out] at this
  simpa [List.append_assoc] using this

theorem commaL_snoc (xs : List (List UInt8)) (y : List UInt8) : commaL (xs ++ [y]) = if xs.isEmpty then y else commaL xs ++ [44, 32] ++ y := by
  induction xs with
  | nil => rfl
  | cons a xs ih =>
    cases xs with
    | nil => rfl
    | cons b xs =>
      simp only [List.cons_append, commaL, List.isEmpty_cons, Bool.false_eq_true, if_false] at ih ⊢
      rw [ih]
      simp [List.append_assoc]
theorem commaL_take_le (xs : List (List UInt8)) (k : Nat) : (commaL (xs.take k)).length ≤ (commaL xs).length := by
  induction xs generalizing k with
  | nil => simp
  | cons a xs ih =>
    cases k with
    | zero => simp [commaL]
    | succ k =>
      cases xs with
      | nil => simp
      | cons b xs =>
        cases k with
        | zero => simp only [List.take_succ_cons, List.take_zero, commaL, List.length_append]; omega
        | succ k =>
          have := ih (k + 1)
          simp only [List.take_succ_cons, commaL, List.length_append] at this ⊢
          omega
/-- The text of the first k operands. -/
def fmtK (d : Nat) (ks : List Ex) (k : Nat) : List UInt8 := commaL ((ks.map (fmtG d)).take k)
theorem fmtK_succ {d : Nat} {ks : List Ex} {k : Nat} {x : Ex} (h : ks[k]? = some x) : fmtK d ks (k + 1) = if k = 0 then fmtG d x else fmtK d ks k ++ [44, 32] ++ fmtG d x := by
  obtain ⟨hk, hx⟩ := List.getElem?_eq_some_iff.1 h
  unfold fmtK
  rw [List.take_succ_eq_append_getElem (by simpa using hk), commaL_snoc]
  simp only [List.getElem_map, hx]
  by_cases h0 : k = 0
  · subst h0; simp
  · have : ((ks.map (fmtG d)).take k).isEmpty = false := by
      rw [List.isEmpty_eq_false_iff]
      intro q
      have := congrArg List.length q
      rw [List.length_take, List.length_map, List.length_nil] at this
      omega
    rw [this, if_neg h0]
    rfl
theorem fmtK_le (d : Nat) (ks : List Ex) (k : Nat) : (fmtK d ks k).length ≤ (commaL (ks.map (fmtG d))).length := commaL_take_le _ k
def FmL (w0 : World) (B : Nat) (K : Nat → Prop) (bb : Nat) (d : Nat) (ks : List Ex) (l0 : List UInt8) (g : Nat) (v : Value) (wr : World) : Prop :=
  ∃ k, k ≤ ks.length ∧ ks.length - k < g ∧ v = .int .i64 (k : Int) ∧ BK B K bb (l0 ++ fmtK d ks k) wr ∧ Kp K w0 wr

set_option maxRecDepth 100000 in
set_option maxHeartbeats 4000000 in
theorem fmt_call {d : Nat} (hF : FmtOk d) (op n : Int) (A : Option Addr) (c : Nat) (ks : List Ex) (w : World) (B : Nat) (K : Nat → Prop) (bb : Nat) (l : List UInt8) (hop : 13 ≤ op ∧ op ≤ 22) (hn : 0 ≤ n ∧ n ≤ 32767) (hkids : ∀ k ∈ ks, okG d k) (hks : ks.length ≤ 3) (hr : Rw ExV 4 w K A ks.length ks) (hb : BK B K bb l w) (h5 : ∀ b, b ≤ 5 → K b) (hw : Lw w)
    (hlen : l.length + (wordP op ++ [40] ++ commaL (ks.map (fmtG d)) ++ (if timedB op then [44, 32] ++ Lib.itoa n else []) ++ [41]).length ≤ 140737488355328) :
    Calls Tryz.prog 31 #[.pointer (some ⟨bb, 0, Option.none⟩), exV op n [] A ks.length c] w (RetFm B K bb (l ++ (wordP op ++ [40] ++ commaL (ks.map (fmtG d)) ++ (if timedB op then [44, 32] ++ Lib.itoa n else []) ++ [41])) w) := by
  have HB := Lib.hid hb
  have hX0 := XV.new w op n [] A ks.length c
  have HBK0 := Lib.hid (hb.box #[.int .i64 op, .int .i64 n, .string ⟨#[]⟩, .slice A ks.length c])
  have HKP0 := Lib.hid (Kp.refl (fun b => K b ∨ b = w.heap.size) (w.alloc (Obj.cells #[.int .i64 op, .int .i64 n, .string ⟨#[]⟩, .slice A ks.length c] 25)))
  have HKPs := Lib.hid (fm_start hb (Obj.cells #[.int .i64 op, .int .i64 n, .string ⟨#[]⟩, .slice A ks.length c] 25))
  have HX := Lib.hid hX0
  have HF := Lib.hid hF
  have HR := Lib.hid hr
  have HW := Lib.hid hw
  have H5 := Lib.hid h5
  have HOK := Lib.hid hkids
  have CI := fun W => infix_any op W
  rw [show infixB op = false by unfold infixB; simp; omega] at CI
  have HCI := Lib.hid CI
  have CW := fun W => word_any op (by omega) (by omega) W
  have CT := fun W => timed_any op W
  have hil := itoa_len 4 n hn.1 (by omega)
  have CN := fun W hW => itoa_any n (by omega) (by omega) W hW
  obtain ⟨it, hit⟩ : ∃ it, Lib.itoa n = it := ⟨_, rfl⟩
  obtain ⟨wd, hwd⟩ : ∃ wd, wordP op = wd := ⟨_, rfl⟩
  obtain ⟨res, hres⟩ : ∃ res, l ++ (wordP op ++ [40] ++ commaL (ks.map (fmtG d)) ++ (if timedB op then [44, 32] ++ Lib.itoa n else []) ++ [41]) = res := ⟨_, rfl⟩
  rw [hres]
  rw [hwd] at CW hlen hres
  rw [hit] at CN hlen hres hil
  have HRES := Lib.hid hres
  have HCW := Lib.hid CW
  have HCN := Lib.hid CN
  have hKl := fun k => fmtK_le d ks k
  have hKa : fmtK d ks ks.length = commaL (ks.map (fmtG d)) := by unfold fmtK; rw [List.take_of_length_le (by simp)]
  have hlenA : l.length + wd.length + 1 + (commaL (ks.map (fmtG d))).length + (if timedB op then 2 + it.length else 0) + 1 ≤ 140737488355328 := by
    cases ht : timedB op with
    | false => rw [ht] at hlen; simp at hlen ⊢; omega
    | true => rw [ht] at hlen; simp at hlen ⊢; omega
  have hlen2 : l.length + wd.length + 1 + (commaL (ks.map (fmtG d))).length + 1 ≤ 140737488355328 := by omega
  have e1 : (op == 1) = false := by simp; omega
  have e2 : (op == 2) = false := by simp; omega
  have e3 : (op == 3) = false := by simp; omega
  have e4 : (op == 4) = false := by simp; omega
  have HKL := Lib.hid hKl
  have HKA := Lib.hid hKa
  have HLA := Lib.hid hlenA
  have hcat : ({ data := wd.toArray } : ByteArray) ++ { data := #[40] } = ⟨(wd ++ [40]).toArray⟩ := cat_list wd [40]
  obtain ⟨sw, hsw⟩ : ∃ sw, wd ++ [40] = sw := ⟨_, rfl⟩
  have hswl : sw.length = wd.length + 1 := by rw [← hsw]; simp
  rw [hsw] at hcat
  have HSW := Lib.hid hsw
  have HSL := Lib.hid hswl
  clear hb hX0 hF hr hw h5 hkids hlen CI CW CN hwd hit hres hop hn hKl hKa hlenA hsw hswl
  unfold exV
  go_enter Tryz.func31, Tryz.ntmps31
  go_wp2_with fail
  refine (HCI.out _).mono ?_
  rintro e w9 ⟨rfl, rfl⟩
  go_wp2_with fail
  refine (HCW.out _).mono ?_
  rintro e w1 ⟨rfl, hb1⟩
  have HBK1 := Lib.hid (HBK0.out.below hb1)
  have HKP1 := Lib.hid (Kp.of_below (K := (fun b => K b ∨ b = w.heap.size)) hb1 fun b q => (HBK0.out.kt b q).1)
  clear hb1
  have HC1 := Lib.hid (ws_keep B bb _ l sw w1 HBK1.out (by rw [HSL.out]; omega))
  go_wp2_with fail
  refine HC1.out.mono ?_
  rintro e w2 ⟨rfl, hbk, hkp⟩
  have HBK2 := Lib.hid hbk
  have HKP2 := Lib.hid (HKP1.out.trans hkp)
  clear hbk hkp HC1
  have X2 := HX.out.keep HKP2.out.keep (.inr rfl)
  obtain ⟨x0, x1, x2, x3, -, -, -, -⟩ := X2.cells
  clear X2 hcat
  go_wp2_with fail
  go_loopg [15] (ks.length + 1) (fun g v wr => FmL (w.alloc (Obj.cells #[.int .i64 op, .int .i64 n, .string ⟨#[]⟩, .slice A ks.length c] 25)) B (fun b => K b ∨ b = w.heap.size) bb d ks (l ++ sw) g v wr)
  case atStart =>
    refine ⟨0, Nat.zero_le _, by omega, rfl, ?_, HKP2.out⟩
    have := HBK2.out
    simpa [fmtK, commaL] using this
  case round =>
    obtain ⟨k, hk, hg, rfl, hbk, hkp⟩ := hrel
    clear x0 x1 x2 x3
    have HBR := Lib.hid hbk
    have HKR := Lib.hid hkp
    have XR := HX.out.keep hkp.keep (.inr rfl)
    obtain ⟨x0, x1, x2, x3, -, -, -, -⟩ := XR.cells
    clear hbk hkp XR
    by_cases hlt : k < ks.length
    case neg =>
      obtain rfl : k = ks.length := by omega
      have CT := CT
      cases htm : timedB op with
      | false =>
        rw [htm] at CT
        have HCT := Lib.hid CT
        have HTM := Lib.hid htm
        clear CT htm hlt
        go_wp2_with fail
        refine (HCT.out _).mono ?_
        rintro e w9 ⟨rfl, rfl⟩
        have HC6 := Lib.hid (ws_keep B bb _ (l ++ sw ++ fmtK d ks ks.length) [41] wr HBR.out (by have := HSL.out; have := congrArg List.length HKA.out; simp only [List.length_append, List.length_cons, List.length_nil]; omega))
        go_wp2_with fail
        refine HC6.out.mono ?_
        rintro e w6 ⟨rfl, hbk, hkp⟩
        go_wp2
        go_end0
        have := fm_end HB.out hbk (HKR.out.trans hkp)
        rw [← HRES.out]
        rw [HKA.out, ← HSW.out] at this
        rw [HTM.out]
        simpa [List.append_assoc] using this
      | true =>
        rw [htm] at CT
        have HCT := Lib.hid CT
        have hla := HLA.out
        rw [htm] at hla
        simp only [if_true] at hla
        have HTM := Lib.hid htm
        clear CT htm hlt
        have hcat : ({ data := #[44, 32] } : ByteArray) ++ { data := it.toArray } = ⟨([44, 32] ++ it).toArray⟩ := cat_list [44, 32] it
        obtain ⟨si, hsi⟩ : ∃ si, [44, 32] ++ it = si := ⟨_, rfl⟩
        have hsil : si.length = it.length + 2 := by rw [← hsi]; simp
        rw [hsi] at hcat
        have HSI := Lib.hid hsi
        have HSIL := Lib.hid hsil
        clear hsi hsil
        go_wp2_with fail
        refine (HCT.out _).mono ?_
        rintro e w9 ⟨rfl, rfl⟩
        go_wp2_with fail
        refine (HCN.out _ (HW.out.kp (HKPs.out.trans (HKR.out.mono fun b q => .inl q)) H5.out)).mono ?_
        rintro e w5 ⟨rfl, hb5⟩
        have HBK5 := Lib.hid (HBR.out.below hb5)
        have HKP5 := Lib.hid (HKR.out.trans (Kp.of_below hb5 fun b q => (HBR.out.kt b q).1))
        clear hb5
        have HC5 := Lib.hid (ws_keep B bb _ (l ++ sw ++ fmtK d ks ks.length) si w5 HBK5.out (by have := HSL.out; have := HSIL.out; have := congrArg List.length HKA.out; simp only [List.length_append]; omega))
        go_wp2_with fail
        refine HC5.out.mono ?_
        rintro e w6 ⟨rfl, hbk, hkp⟩
        have HBK6 := Lib.hid hbk
        have HKP6 := Lib.hid (HKP5.out.trans hkp)
        clear hbk hkp hcat HC5
        have HC6 := Lib.hid (ws_keep B bb _ (l ++ sw ++ fmtK d ks ks.length ++ si) [41] w6 HBK6.out (by have := HSL.out; have := HSIL.out; have := congrArg List.length HKA.out; simp only [List.length_append, List.length_cons, List.length_nil]; omega))
        go_wp2_with fail
        refine HC6.out.mono ?_
        rintro e w7 ⟨rfl, hbk, hkp⟩
        go_wp2
        go_end0
        have := fm_end HB.out hbk (HKP6.out.trans hkp)
        rw [← HRES.out]
        rw [HKA.out, ← HSW.out, ← HSI.out] at this
        rw [HTM.out]
        simpa [List.append_assoc] using this
    have kpr := (HKPs.out.trans (HKR.out.mono fun b q => .inl q))
    obtain ⟨b, o, op2, n2, nm2, A2, c2, ys, hA, hSb, hky, hc2, hm2, hp2, hr2, hxb⟩ := exAt (HR.out.mono ExV.mono (fun b q => q) kpr.keep) hlt
    subst hA
    obtain ⟨y0, y1, y2, y3⟩ := hxb
    have hbw : b < wr.heap.size := (HBR.out.kt b (.inl hSb)).1
    have hsucc := fmtK_succ (d := d) hky
    have hle1 := HKL.out (k + 1)
    have HBX := Lib.hid (HBR.out.box #[.int .i64 op2, .int .i64 n2, .string ⟨nm2.toArray⟩, .slice A2 ys.length c2])
    have hbx := box_below wr (Obj.cells #[.int .i64 op2, .int .i64 n2, .string ⟨nm2.toArray⟩, .slice A2 ys.length c2] 25)
    have HKX := Lib.hid (HKR.out.trans (Kp.of_below hbx fun b q => (HBR.out.kt b q).1))
    have HXK := Lib.hid (XV.new wr op2 n2 nm2 A2 ys.length c2)
    have HR2 := Lib.hid (hr2.mono ExV.mono (fun b q => q) (keepOn_below hbx fun b q => (HBR.out.kt b (.inl q)).1))
    have HLWX := Lib.hid ((HW.out.kp kpr H5.out).below hbx)
    have HOKK := Lib.hid (HOK.out _ (List.mem_of_getElem? hky))
    have HSU := Lib.hid hsucc
    have HL1 := Lib.hid hle1
    clear kpr hSb hky hp2 hr2 hsucc hle1 hbx
    by_cases h0 : k = 0
    · have d0 : ¬ 0 < k := by omega
      have HC4 := Lib.hid (HF.out op2 n2 nm2 A2 c2 ys _ B _ bb (l ++ sw ++ fmtK d ks k) HOKK.out hc2 hm2 (HR2.out.mono ExV.mono (fun b q => .inl (.inl q)) (KeepOn.refl _ _)) HBX.out (fun b q => .inl (.inl (H5.out b q))) HLWX.out (by
          have h1 := HSL.out
          have h2 := HL1.out
          have h3 := HSU.out
          rw [if_pos h0] at h3
          rw [h3] at h2
          have h4 : fmtK d ks k = [] := by rw [h0]; rfl
          rw [h4]
          simp only [List.length_append, List.length_nil]
          omega))
      have H0 := Lib.hid h0
      unfold exV at HC4
      clear h0
      go_wp2_with fail
      refine HC4.out.mono ?_
      rintro e w5 ⟨rfl, hbk, hkp⟩
      have HBK5 := Lib.hid (hbk.mono (K' := (fun b => K b ∨ b = w.heap.size)) fun b q => .inl q)
      have HKP5 := Lib.hid (HKX.out.trans (hkp.mono fun b q => .inl q))
      clear hbk hkp
      go_wp2
      go_roundg (ks.length - k)
      case measure => omega
      case rel =>
        refine ⟨k + 1, by omega, by omega, by go_num, ?_, HKP5.out⟩
        rw [HSU.out, if_pos H0.out]
        have := HBK5.out
        rw [show fmtK d ks k = [] by rw [H0.out]; rfl] at this
        simpa using this
    · have d0 : 0 < k := by omega
      have hl5 : l.length + sw.length + (fmtK d ks k).length + 2 + (fmtG d (.mk op2 n2 nm2 ys)).length ≤ 140737488355328 := by
        have h1 := HSL.out
        have h2 := HL1.out
        have h3 := HSU.out
        rw [if_neg h0] at h3
        rw [h3] at h2
        simp only [List.length_append, List.length_cons, List.length_nil] at h2
        omega
      have HC3 := Lib.hid (ws_keep B bb _ (l ++ sw ++ fmtK d ks k) [44, 32] _ HBX.out (by simp only [List.length_append, List.length_cons, List.length_nil]; omega))
      have H0 := Lib.hid h0
      clear h0
      go_wp2_with fail
      refine HC3.out.mono ?_
      rintro e w4 ⟨rfl, hbk4, hkp4⟩
      have X4 := HXK.out.keep hkp4.keep (.inr rfl)
      obtain ⟨u0, u1, u2, u3, -, -, -, -⟩ := X4.cells
      have HC4 := Lib.hid (HF.out op2 n2 nm2 A2 c2 ys w4 B _ bb (l ++ sw ++ fmtK d ks k ++ [44, 32]) HOKK.out hc2 hm2 (HR2.out.mono ExV.mono (fun b q => .inl (.inl q)) (hkp4.keep.mono fun b q => .inl (.inl q))) hbk4 (fun b q => .inl (.inl (H5.out b q))) (HLWX.out.kp (hkp4.mono fun b q => .inl (.inl q)) H5.out) (by simp only [List.length_append, List.length_cons, List.length_nil]; omega))
      have HKP4 := Lib.hid hkp4
      unfold exV at HC4
      clear X4 hbk4 hkp4 HC3
      go_wp2_with fail
      refine HC4.out.mono ?_
      rintro e w5 ⟨rfl, hbk, hkp⟩
      have HBK5 := Lib.hid (hbk.mono (K' := (fun b => K b ∨ b = w.heap.size)) fun b q => .inl q)
      have HKP5 := Lib.hid (HKX.out.trans ((HKP4.out.trans hkp).mono fun b q => .inl q))
      clear hbk hkp
      go_wp2
      go_roundg (ks.length - k)
      case measure => omega
      case rel =>
        refine ⟨k + 1, by omega, by omega, by go_num, ?_, HKP5.out⟩
        rw [HSU.out, if_neg H0.out]
        have := HBK5.out
        simpa [List.append_assoc] using this
end Go.Proofs.YtmbmngnnfkdngaaGreatDoor
