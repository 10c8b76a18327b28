/-
  Programs of one rule with one cell: rise, fall, delay, hold, count. Plain words.
-/
import Derived.Test.YtcikenlflcofbaaDoorOrd
namespace Go.Proofs.YtcikenlflcofbaaDoor

theorem bi_len (l : List Bool) : (bi l).length = l.length := by unfold bi; rw [List.length_map]
/-- The outputs of a cell's scans. -/
def outF (f : Cs → Bool → Int × Cs) : Cs → List Bool → List Int
  | _, [] => []
  | c, b :: l => (f c b).1 :: outF f (f c b).2 l
theorem outF_len (f : Cs → Bool → Int × Cs) : ∀ (c : Cs) (l : List Bool), (outF f c l).length = l.length
  | _, [] => rfl
  | c, b :: l => by unfold outF; rw [List.length_cons, List.length_cons, outF_len f]
structure CellP (p : Pg) (f : Cs → Bool → Int × Cs) : Prop where
  ver : (verP p).2.2 = 0
  read : ∀ b, readB p [bitP b] = true
  scan : ∀ u c b, scanP p ⟨[u], [c]⟩ [bitP b] = ⟨[(f c b).1], [(f c b).2]⟩
  new : newP p = ⟨[0], [⟨false, 0⟩]⟩
theorem CellP.runL {p : Pg} {f : Cs → Bool → Int × Cs} (h : CellP p f) : ∀ (xs : List Bool) (u : Int) (c : Cs) (l : List (List Int)), runL p (one (bi xs)) ⟨[u], [c]⟩ l = (l ++ one (outF f c xs), 0)
  | [], _, _, l => by unfold outF; show (l, 0) = (l ++ [], 0); rw [List.append_nil]
  | b :: xs, u, c, l => by
    have e : one (bi (b :: xs)) = [bitP b] :: one (bi xs) := rfl
    rw [e, runL_cons, h.read, h.scan, if_neg (by decide)]
    dsimp only
    rw [h.runL xs, List.append_assoc]
    rfl
theorem CellP.run {p : Pg} {f : Cs → Bool → Int × Cs} (h : CellP p f) (xs : List Bool) : runS p (one (bi xs)) = (one (outF f ⟨false, 0⟩ xs), 0) := by
  unfold runS
  rw [if_neg (by rw [h.ver]; decide), h.new]
  exact h.runL xs 0 _ []
def risePg : Pg := ⟨rIn, [[114]], [⟨17, 0⟩], [⟨30, 0⟩, ⟨17, 0⟩, ⟨32, 0⟩]⟩
def fallPg : Pg := ⟨rIn, [[114]], [⟨18, 0⟩], [⟨30, 0⟩, ⟨4, 0⟩, ⟨18, 0⟩, ⟨32, 0⟩]⟩
def delPg (n : Nat) : Pg := ⟨rIn, [[114]], [⟨19, n⟩], [⟨30, 0⟩, ⟨19, 0⟩, ⟨32, 0⟩]⟩
def holPg (n : Nat) : Pg := ⟨rIn, [[114]], [⟨20, n⟩], [⟨30, 0⟩, ⟨20, 0⟩, ⟨32, 0⟩]⟩
def cntPg (n : Nat) : Pg := ⟨rIn, [[114]], [⟨22, 0⟩], [⟨30, 0⟩, ⟨1, 0⟩, ⟨22, 0⟩, ⟨2, n⟩, ⟨10, 0⟩, ⟨32, 0⟩]⟩
def riF (c : Cs) (b : Bool) : Int × Cs := cellP 17 0 c b false
def faF (c : Cs) (b : Bool) : Int × Cs := cellP 18 0 c (!b) false
theorem riF_1 (c : Cs) (b : Bool) : (riF c b).1 = bitP (b && !c.on) := rfl
theorem riF_2 (c : Cs) (b : Bool) : (riF c b).2 = ⟨b, c.n⟩ := rfl
theorem faF_1 (c : Cs) (b : Bool) : (faF c b).1 = bitP (!!b && c.on) := rfl
theorem faF_2 (c : Cs) (b : Bool) : (faF c b).2 = ⟨!b, c.n⟩ := rfl
theorem rise_cell : CellP risePg riF := ⟨by kernel_rfl, fun b => by cases b <;> kernel_rfl, fun u c b => by cases b <;> rfl, rfl⟩
theorem fall_cell : CellP fallPg faF := ⟨by kernel_rfl, fun b => by cases b <;> kernel_rfl, fun u c b => by cases b <;> rfl, rfl⟩
def cntF (n : Nat) (c : Cs) (b : Bool) : Int × Cs := (bitP (decide ((cellP 22 0 c b false).1 = (n : Int))), (cellP 22 0 c b false).2)
deriving instance DecidableEq for Sg
deriving instance DecidableEq for Ins
deriving instance DecidableEq for Cl
deriving instance DecidableEq for Pg
def dig (n : Nat) : List UInt8 := if n < 10 then [UInt8.ofNat (48 + n)] else [UInt8.ofNat (48 + n / 10), UInt8.ofNat (48 + n % 10)]
def delTx (n : Nat) : List UInt8 := [100, 101, 108, 97, 121, 40, 97, 44, 32] ++ dig n ++ [41]
def holTx (n : Nat) : List UInt8 := [104, 111, 108, 100, 40, 97, 44, 32] ++ dig n ++ [41]
def cntTx (n : Nat) : List UInt8 := [99, 111, 117, 110, 116, 40, 97, 44, 32, 102, 97, 108, 115, 101, 41, 32, 61, 32] ++ dig n
theorem below_all {k : Nat} {p : Nat → Bool} (h : (List.range k).all p = true) {n : Nat} (hn : n < k) : p n = true := List.all_eq_true.1 h n (List.mem_range.2 hn)
set_option maxRecDepth 100000 in
theorem del_cmp {n : Nat} (hn : n < 71) : cmpP (rRl (delTx n)) rIn = (delPg n, 0, 0) := of_decide_eq_true (below_all (k := 71) (p := fun n => decide (cmpP (rRl (delTx n)) rIn = (delPg n, 0, 0))) (by kernel_rfl) hn)
set_option maxRecDepth 100000 in
theorem hol_cmp {n : Nat} (hn : n < 71) : cmpP (rRl (holTx n)) rIn = (holPg n, 0, 0) := of_decide_eq_true (below_all (k := 71) (p := fun n => decide (cmpP (rRl (holTx n)) rIn = (holPg n, 0, 0))) (by kernel_rfl) hn)
set_option maxRecDepth 100000 in
theorem cnt_cmp {n : Nat} (hn : n < 61) : cmpP (rRl (cntTx n)) rIn = (cntPg n, 0, 0) := of_decide_eq_true (below_all (k := 61) (p := fun n => decide (cmpP (rRl (cntTx n)) rIn = (cntPg n, 0, 0))) (by kernel_rfl) hn)
theorem rise_cmp : cmpP (rRl [114, 105, 115, 101, 40, 97, 41]) rIn = (risePg, 0, 0) := by kernel_rfl
theorem fall_cmp : cmpP (rRl [102, 97, 108, 108, 40, 110, 111, 116, 32, 97, 41]) rIn = (fallPg, 0, 0) := by kernel_rfl
def deF (n : Nat) (c : Cs) (b : Bool) : Int × Cs := cellP 19 n c b false
def hoF (n : Nat) (c : Cs) (b : Bool) : Int × Cs := cellP 20 n c b false
theorem del_cell {n : Nat} (hn : n < 71) : CellP (delPg n) (deF n) := ⟨of_decide_eq_true (below_all (k := 71) (p := fun n => decide ((verP (delPg n)).2.2 = 0)) (by kernel_rfl) hn), fun b => by cases b <;> rfl, fun u c b => by cases b <;> rfl, rfl⟩
theorem hol_cell {n : Nat} (hn : n < 71) : CellP (holPg n) (hoF n) := ⟨of_decide_eq_true (below_all (k := 71) (p := fun n => decide ((verP (holPg n)).2.2 = 0)) (by kernel_rfl) hn), fun b => by cases b <;> rfl, fun u c b => by cases b <;> rfl, rfl⟩
theorem cnt_cell {n : Nat} (hn : n < 61) : CellP (cntPg n) (cntF n) := ⟨of_decide_eq_true (below_all (k := 61) (p := fun n => decide ((verP (cntPg n)).2.2 = 0)) (by kernel_rfl) hn), fun b => by cases b <;> rfl, fun u c b => by cases b <;> rfl, rfl⟩
/-! States. -/
def stF (f : Cs → Bool → Int × Cs) (c : Cs) (l : List Bool) : Cs := l.foldl (fun c b => (f c b).2) c
theorem outF_get (f : Cs → Bool → Int × Cs) : ∀ {l : List Bool} {c : Cs} {i : Nat} {b : Bool}, l[i]? = some b → (outF f c l)[i]? = some (f (stF f c (l.take i)) b).1
  | [], _, _, _, h => by simp at h
  | x :: l, c, 0, b, h => by cases h; rfl
  | x :: l, c, i + 1, b, h => outF_get f (l := l) (c := (f c x).2) (i := i) h
theorem stF_next (f : Cs → Bool → Int × Cs) {l : List Bool} {c : Cs} {i : Nat} {b : Bool} (h : l[i]? = some b) : stF f c (l.take (i + 1)) = (f (stF f c (l.take i)) b).2 := by
  unfold stF
  rw [List.take_add_one, h, List.foldl_append]
  rfl
def upB (l : List Bool) (i : Nat) : Bool := l.getD i false && (decide (i = 0) || !l.getD (i - 1) false)
def upsI (l : List Bool) : Nat → Nat
  | 0 => 0
  | i + 1 => upsI l i + if upB l i then 1 else 0
theorem upsI_succ (l : List Bool) (i : Nat) : upsI l (i + 1) = upsI l i + if upB l i then 1 else 0 := rfl
theorem upsI_le (l : List Bool) : ∀ i, upsI l i ≤ i
  | 0 => Nat.le_refl _
  | i + 1 => by
    have := upsI_le l i
    show upsI l i + (if upB l i then 1 else 0) ≤ i + 1
    split <;> omega
theorem get_of {l : List Bool} {i : Nat} (h : i < l.length) : l[i]? = some (l.getD i false) := by
  rw [List.getD_eq_getElem?_getD, List.getElem?_eq_getElem h]
  rfl
theorem rise_st (l : List Bool) (i : Nat) (h : i ≤ l.length) : (stF riF ⟨false, 0⟩ (l.take i)).on = (!decide (i = 0) && l.getD (i - 1) false) := by
  cases i with
  | zero => rfl
  | succ i => rw [stF_next _ (get_of (show i < l.length by omega)), riF_2]; simp
theorem bit_up (l : List Bool) (i : Nat) : (l.getD i false && !(!decide (i = 0) && l.getD (i - 1) false)) = upB l i := by
  unfold upB
  cases l.getD i false <;> cases l.getD (i - 1) false <;> by_cases h0 : i = 0 <;> simp [h0]
theorem rise_get {l : List Bool} {i : Nat} (h : i < l.length) : (outF riF ⟨false, 0⟩ l)[i]? = some (bitP (upB l i)) := by
  rw [outF_get _ (get_of h), riF_1, rise_st l i (by omega), bit_up]
theorem fall_st (l : List Bool) (i : Nat) (h : i ≤ l.length) : (stF faF ⟨false, 0⟩ (l.take i)).on = (!decide (i = 0) && !l.getD (i - 1) false) := by
  cases i with
  | zero => rfl
  | succ i => rw [stF_next _ (get_of (show i < l.length by omega)), faF_2]; simp
theorem fall_get {l : List Bool} {i : Nat} (h : i < l.length) (h0 : 0 < i) : (outF faF ⟨false, 0⟩ l)[i]? = some (bitP (upB l i)) := by
  have h1 : decide (i = 0) = false := decide_eq_false (by omega)
  rw [outF_get _ (get_of h), faF_1, fall_st l i (by omega), h1, Bool.not_not, Bool.not_false, Bool.true_and]
  unfold upB
  rw [h1, Bool.false_or]
theorem cntF_2 (n : Nat) (c : Cs) (b : Bool) : (cntF n c b).2 = ⟨b, if b && !c.on then min (c.n + 1) 32767 else c.n⟩ := rfl
theorem cntF_1 (n : Nat) (c : Cs) (b : Bool) : (cntF n c b).1 = bitP (decide ((cntF n c b).2.n = (n : Int))) := rfl
theorem min_big {u : Nat} (h : u ≤ 60) : min ((u : Int) + 1) 32767 = ((u + 1 : Nat) : Int) := by omega
theorem cnt_st (n : Nat) (l : List Bool) (i : Nat) : i ≤ l.length → i ≤ 60 → (stF (cntF n) ⟨false, 0⟩ (l.take i)).on = (!decide (i = 0) && l.getD (i - 1) false) ∧ (stF (cntF n) ⟨false, 0⟩ (l.take i)).n = (upsI l i : Int) := by
  induction i with
  | zero => exact fun _ _ => ⟨rfl, rfl⟩
  | succ i ih =>
    intro h h60
    obtain ⟨h1, h2⟩ := ih (by omega) (by omega)
    have h3 := upsI_le l i
    rw [stF_next _ (get_of (show i < l.length by omega)), cntF_2]
    refine ⟨by simp, ?_⟩
    dsimp only
    rw [h1, h2, bit_up, min_big (by omega)]
    rw [upsI_succ]
    cases upB l i <;> rfl
theorem cnt_get {l : List Bool} {i : Nat} (h : i < l.length) (h60 : l.length ≤ 60) : (outF (cntF (upsI l (i + 1))) ⟨false, 0⟩ (l.take (i + 1)))[i]? = some 1 := by
  have hl : i < (l.take (i + 1)).length := by rw [List.length_take]; omega
  rw [outF_get _ (get_of hl)]
  have hg : (l.take (i + 1)).getD i false = l.getD i false := by rw [List.getD_eq_getElem?_getD, List.getElem?_take, if_pos (by omega), ← List.getD_eq_getElem?_getD]
  have ht : (l.take (i + 1)).take i = l.take i := by rw [List.take_take, Nat.min_eq_left (by omega)]
  rw [hg, ht]
  have := (cnt_st (upsI l (i + 1)) l (i + 1) (by omega) (by omega)).2
  rw [stF_next _ (get_of h)] at this
  rw [cntF_1, this, decide_eq_true rfl]
  rfl

/-! Timers. -/
def runI (l : List Bool) : Nat → Nat
  | 0 => 0
  | i + 1 => if l.getD i false then runI l i + 1 else 0
theorem runI_succ (l : List Bool) (i : Nat) : runI l (i + 1) = if l.getD i false then runI l i + 1 else 0 := rfl
theorem runI_iff (l : List Bool) (i : Nat) : ∀ s, s ≤ runI l i ↔ s ≤ i ∧ ∀ t, t < s → l.getD (i - 1 - t) false = true := by
  induction i with
  | zero => exact fun s => ⟨fun h => ⟨h, fun t ht => absurd (Nat.lt_of_lt_of_le ht h) (Nat.not_lt_zero _)⟩, fun h => h.1⟩
  | succ i ih =>
    intro s
    rw [runI_succ]
    cases s with
    | zero => exact ⟨fun _ => ⟨Nat.zero_le _, fun t ht => absurd ht (Nat.not_lt_zero _)⟩, fun _ => Nat.zero_le _⟩
    | succ s =>
      cases hb : l.getD i false with
      | false => exact ⟨fun h => by simp at h, fun h => by have := h.2 0 (by omega); simp only [Nat.add_sub_cancel, Nat.sub_zero] at this; rw [hb] at this; cases this⟩
      | true =>
        rw [if_pos rfl]
        constructor
        · intro h
          obtain ⟨h1, h2⟩ := (ih s).1 (by omega)
          refine ⟨by omega, fun t ht => ?_⟩
          cases t with
          | zero => exact hb
          | succ t => have := h2 t (by omega); rw [show i + 1 - 1 - (t + 1) = i - 1 - t by omega]; exact this
        · intro h
          have := (ih s).2 ⟨by omega, fun t ht => by have := h.2 (t + 1) (by omega); rw [show i + 1 - 1 - (t + 1) = i - 1 - t by omega] at this; exact this⟩
          omega
def allD (l : List Bool) (i s : Nat) : Bool := (List.range s).all fun t => l.getD (i - t) false
def anyD (l : List Bool) (i s : Nat) : Bool := (List.range s).any fun t => l.getD (i - t) false
theorem allD_succ (l : List Bool) (i s : Nat) : allD l i (s + 1) = (allD l i s && l.getD (i - s) false) := by
  unfold allD
  rw [List.range_succ, List.all_append, List.all_cons, List.all_nil, Bool.and_true]
theorem anyD_succ (l : List Bool) (i s : Nat) : anyD l i (s + 1) = (anyD l i s || l.getD (i - s) false) := by
  unfold anyD
  rw [List.range_succ, List.any_append, List.any_cons, List.any_nil, Bool.or_false]
theorem allD_iff (l : List Bool) (i s : Nat) : allD l i s = true ↔ ∀ t, t < s → l.getD (i - t) false = true := by
  unfold allD
  rw [List.all_eq_true]
  exact ⟨fun h t ht => h t (List.mem_range.2 ht), fun h t ht => h t (List.mem_range.1 ht)⟩
theorem anyD_iff (l : List Bool) (i s : Nat) : anyD l i s = true ↔ ∃ t, t < s ∧ l.getD (i - t) false = true := by
  unfold anyD
  rw [List.any_eq_true]
  exact ⟨fun ⟨t, ht, h⟩ => ⟨t, List.mem_range.1 ht, h⟩, fun ⟨t, ht, h⟩ => ⟨t, List.mem_range.2 ht, h⟩⟩
theorem deF_1 (n : Nat) (c : Cs) (b : Bool) : (deF n c b).1 = if b then bitP (decide ((n : Int) < min (c.n + 1) ((n : Int) + 1))) else 0 := by cases b <;> rfl
theorem deF_2 (n : Nat) (c : Cs) (b : Bool) : (deF n c b).2.n = if b then min (c.n + 1) ((n : Int) + 1) else 0 := by cases b <;> rfl
theorem del_st (n : Nat) (l : List Bool) (i : Nat) : i ≤ l.length → (stF (deF n) ⟨false, 0⟩ (l.take i)).n = min (runI l i : Int) ((n : Int) + 1) := by
  induction i with
  | zero => intro _; show (0 : Int) = min 0 ((n : Int) + 1); omega
  | succ i ih =>
    intro h
    have h2 := ih (by omega)
    rw [stF_next _ (get_of (show i < l.length by omega)), deF_2, h2, runI_succ]
    cases l.getD i false
    · show (0 : Int) = min 0 ((n : Int) + 1); omega
    · show min (min (runI l i : Int) ((n : Int) + 1) + 1) ((n : Int) + 1) = min (((runI l i + 1 : Nat)) : Int) ((n : Int) + 1); omega
theorem del_get {n : Nat} {l : List Bool} {i : Nat} (h : i < l.length) : (outF (deF n) ⟨false, 0⟩ l)[i]? = some (bitP (decide (n ≤ i) && allD l i (min (i + 1) (n + 1)))) := by
  rw [outF_get _ (get_of h), deF_1, del_st n l i (by omega)]
  have key : (l.getD i false = true ∧ n ≤ runI l i) ↔ (decide (n ≤ i) && allD l i (min (i + 1) (n + 1))) = true := by
    have k := runI_iff l (i + 1) (n + 1)
    rw [runI_succ] at k
    rw [Bool.and_eq_true, decide_eq_true_eq, allD_iff]
    constructor
    · rintro ⟨h1, h2⟩
      rw [h1, if_pos rfl] at k
      obtain ⟨k1, k2⟩ := k.1 (by omega)
      exact ⟨by omega, fun t ht => k2 t (by omega)⟩
    · rintro ⟨h1, h2⟩
      have k1 := k.2 ⟨by omega, fun t ht => h2 t (by omega)⟩
      cases hb : l.getD i false with
      | false => rw [hb] at k1; simp at k1
      | true => rw [hb, if_pos rfl] at k1; exact ⟨rfl, by omega⟩
  cases hb : l.getD i false with
  | false =>
    have : (decide (n ≤ i) && allD l i (min (i + 1) (n + 1))) = false := by
      rw [← Bool.not_eq_true, ← key, hb]
      simp
    rw [this]
    rfl
  | true =>
    rw [if_pos rfl]
    congr 1
    congr 1
    rw [hb] at key
    by_cases hn : n ≤ runI l i
    · rw [key.1 ⟨rfl, hn⟩]
      exact decide_eq_true (by omega)
    · have : (decide (n ≤ i) && allD l i (min (i + 1) (n + 1))) = false := by
        rw [← Bool.not_eq_true, ← key]
        exact fun q => hn q.2
      rw [this]
      exact decide_eq_false (by omega)
theorem hoF_1 (n : Nat) (c : Cs) (b : Bool) : (hoF n c b).1 = bitP (b || decide (0 < c.n)) := rfl
theorem hoF_2 (n : Nat) (c : Cs) (b : Bool) : (hoF n c b).2.n = if b then (n : Int) else max (c.n - 1) 0 := rfl
theorem hol_st (n : Nat) (l : List Bool) (i : Nat) : i ≤ l.length → ∀ r : Nat, (r : Int) < (stF (hoF n) ⟨false, 0⟩ (l.take i)).n ↔ ∃ t, t < i ∧ t + r < n ∧ l.getD (i - 1 - t) false = true := by
  induction i with
  | zero =>
    intro _ r
    constructor
    · intro h
      have h : (r : Int) < 0 := h
      omega
    · rintro ⟨t, ht, _⟩
      omega
  | succ i ih =>
    intro h r
    have ih := ih (by omega)
    rw [stF_next _ (get_of (show i < l.length by omega)), hoF_2]
    cases hb : l.getD i false with
    | true =>
      rw [if_pos rfl]
      constructor
      · intro h
        exact ⟨0, by omega, by omega, hb⟩
      · rintro ⟨t, h1, h2, h3⟩
        omega
    | false =>
      rw [if_neg (by decide)]
      have e : (r : Int) < max ((stF (hoF n) ⟨false, 0⟩ (l.take i)).n - 1) 0 ↔ ((r + 1 : Nat) : Int) < (stF (hoF n) ⟨false, 0⟩ (l.take i)).n := by omega
      rw [e, ih]
      constructor
      · rintro ⟨t, h1, h2, h3⟩
        exact ⟨t + 1, by omega, by omega, by rw [show i + 1 - 1 - (t + 1) = i - 1 - t by omega]; exact h3⟩
      · rintro ⟨t, h1, h2, h3⟩
        cases t with
        | zero => rw [show i + 1 - 1 - 0 = i by omega, hb] at h3; cases h3
        | succ t => exact ⟨t, by omega, by omega, by rw [show i + 1 - 1 - (t + 1) = i - 1 - t by omega] at h3; exact h3⟩
theorem hol_get {n : Nat} {l : List Bool} {i : Nat} (h : i < l.length) : (outF (hoF n) ⟨false, 0⟩ l)[i]? = some (bitP (anyD l i (min (i + 1) (n + 1)))) := by
  rw [outF_get _ (get_of h), hoF_1]
  congr 2
  have k := hol_st n l i (by omega) 0
  rw [Bool.eq_iff_iff, Bool.or_eq_true, decide_eq_true_eq, anyD_iff]
  rw [show ((0 : Nat) : Int) = 0 from rfl] at k
  rw [k]
  constructor
  · rintro (h1 | ⟨t, h1, h2, h3⟩)
    · exact ⟨0, by omega, h1⟩
    · exact ⟨t + 1, by omega, by rw [show i - (t + 1) = i - 1 - t by omega]; exact h3⟩
  · rintro ⟨t, h1, h2⟩
    cases t with
    | zero => exact .inl h2
    | succ t => exact .inr ⟨t, by omega, by omega, by rw [show i - (t + 1) = i - 1 - t by omega] at h2; exact h2⟩
end Go.Proofs.YtcikenlflcofbaaDoor
