/-
  Memory words for Replays: rows of bools made, copied into, and gathered.
-/
import Derived.Test.YtcoablindoknpaaDoorRepP
import Derived.Laws.CopyOwn
import Derived.OwnWalk
namespace Go.Proofs.YtcoablindoknpaaDoor
open Go.RowKit

/-- A list filled up with false. -/
def padB (wd : Nat) (s : List Bool) : List Bool := s ++ List.replicate (wd - s.length) false
theorem padB_len {wd : Nat} {s : List Bool} (h : s.length ≤ wd) : (padB wd s).length = wd := by simp [padB]; omega
def boolCells (s : List Bool) : List Value := s.map Value.bool
theorem boolCells_one (s : List Bool) : ∀ v ∈ boolCells s, v.oneCell' = true := by
  intro v hv
  obtain ⟨b, -, rfl⟩ := List.mem_map.1 hv
  rfl
theorem splice_pad {wd : Nat} {s : List Bool} : splice (boolCells (List.replicate wd false)) 0 (boolCells s) = boolCells (padB wd s) := by
  simp [splice, boolCells, padB]
theorem rws_bools {w : World} {g : Nat} {t : TypeId} {s : List Bool} (h : w.heap[g]? = some (.cells (boolCells s).toArray t (0, 0))) : Rws BoolC 1 w w.heap.size (some ⟨g, 0, Option.none⟩) s.length s := by
  refine ⟨rfl, fun _ => ⟨g, 0, rfl, (Array.getElem?_eq_some_iff.1 h).1, fun k x hx => ⟨[.bool x], rfl, rfl, fun j v hv => ?_⟩⟩⟩
  have hj : j = 0 := by have := (List.getElem?_eq_some_iff.1 hv).1; simp at this; exact this
  subst hj
  simp only [List.getElem?_cons_zero, Option.some.injEq] at hv
  subst hv
  have h2 := cell_of_row w g k _ t (0, 0) h
  simp only [Nat.zero_add, Nat.mul_one, Nat.add_zero]
  rw [h2]
  simp [boolCells, hx]
theorem src_bools {w : World} {B n : Nat} {A : Option Addr} {s : List Bool} (h : Rws BoolC 1 w B A n s) (hn : 0 < n) : ∃ ad, A = some ad ∧ ∀ j v, (boolCells s)[j]? = some v → w.cell? (ad.add j) = some v := by
  obtain ⟨b, o, e, _, hr⟩ := h.2 hn
  refine ⟨⟨b, o, Option.none⟩, e, fun j v hv => ?_⟩
  unfold boolCells at hv
  rw [List.getElem?_map] at hv
  obtain ⟨x, hx, rfl⟩ := Option.map_eq_some_iff.1 hv
  obtain ⟨cs, _, rfl, hat⟩ := hr j x hx
  rw [Addr.add_mid]
  have := hat 0 _ rfl
  simpa using this
/-- The slice does not lie in the block that v owns. -/
def NotOwn (v : Value) (A : Option Addr) (n : Nat) : Prop := ∀ b o, A = some ⟨b, o, Option.none⟩ → 0 < n → v.ownBlock ≠ some b
theorem rws_other {α : Type} {R : World → Nat → List Value → α → Prop} (hR : ∀ w w' B B' cs x, R w B cs x → R w' B' cs x) {size : Nat} {w w' : World} {B B' n : Nat} {A : Option Addr} {xs : List α} (h : Rws R size w B A n xs) (hB : B ≤ B') (hA : ∀ b o, A = some ⟨b, o, Option.none⟩ → b < B → 0 < n → w'.heap[b]? = w.heap[b]?) : Rws R size w' B' A n xs := by
  refine ⟨h.1, fun hn => ?_⟩
  obtain ⟨b, o, e, hlt, hr⟩ := h.2 hn
  refine ⟨b, o, e, Nat.lt_of_lt_of_le hlt hB, fun k x hx => ?_⟩
  obtain ⟨cs, h1, h2, h3⟩ := hr k x hx
  refine ⟨cs, h1, hR _ _ _ _ _ _ h2, fun i u hu => ?_⟩
  have := h3 i u hu
  simp only [World.cell?] at this ⊢
  rw [hA b o e hlt hn]
  exact this
theorem rws_lt {α : Type} {R : World → Nat → List Value → α → Prop} {size : Nat} {w : World} {B n b o : Nat} {xs : List α} (h : Rws R size w B (some ⟨b, o, Option.none⟩) n xs) (hn : 0 < n) : b < B := by
  obtain ⟨b', o', e, hlt, _⟩ := h.2 hn
  injection e with e
  injection e with e
  subst e
  exact hlt
theorem boolC_any (w w' : World) (B B' : Nat) (cs : List Value) (x : Bool) (h : BoolC w B cs x) : BoolC w' B' cs x := h
theorem evC_any (w w' : World) (B B' : Nat) (cs : List Value) (x : Ev) (h : EvC w B cs x) : EvC w' B' cs x := h
theorem made_bools (n : Nat) : (madeCells (Value.bool false).cells (n * 1)).toList = boolCells (List.replicate n false) := by
  rw [show (Value.bool false).cells = #[Value.bool false] from rfl, Nat.mul_one, toList_madeCells_one]
  simp [boolCells]
theorem infoBools : (Tryd.prog.info? 44).map (fun i => (i.zero, i.size, i.bytes)) = some (some (.slice Option.none 0 0), 1, 24) := by kernel_rfl

/-- The greatest length of the first k. -/
def wdS (ss : List (List Bool)) : Nat → Nat
  | 0 => 0
  | k + 1 => max (wdS ss k) (stAt ss k).length
theorem wdS_ge (ss : List (List Bool)) : ∀ n k, k < n → (stAt ss k).length ≤ wdS ss n
  | n + 1, k, h => by
    unfold wdS
    by_cases e : k = n
    · subst e; omega
    · have := wdS_ge ss n k (by omega); omega
theorem wdS_le {ss : List (List Bool)} : ∀ n, (∀ k, k < n → (stAt ss k).length ≤ 10) → wdS ss n ≤ 10
  | 0, _ => Nat.zero_le _
  | n + 1, h => by
    have h1 := wdS_le n (fun k hk => h k (by omega))
    have h2 := h n (Nat.lt_succ_self _)
    unfold wdS
    omega
theorem Rws.boolsAt {B n : Nat} {w : World} {A : Option Addr} {ss : List (List Bool)} (h : Rws (SliceOf BoolC 1) 1 w B A n ss) {k : Nat} (hk : k < n) :
    ∃ b o x A1 c1, A = some ⟨b, o, Option.none⟩ ∧ b < B ∧ ss[k]? = some x ∧ x.length ≤ c1 ∧ c1 ≤ maxLen ∧ Rws BoolC 1 w B A1 x.length x ∧ w.cell? ⟨b, o + k, Option.none⟩ = some (.slice A1 x.length c1) := by
  obtain ⟨b, o, cs, x, e, hlt, hx, _, ⟨A1, c1, rfl, h1, h2, h3⟩, hat⟩ := h.at_ hk
  exact ⟨b, o, x, A1, c1, e, hlt, hx, h1, h2, h3, by simpa using hat 0 _ rfl⟩

theorem own_heap {w : World} {base g n : Nat} {e : TypeId} {xs : List Value} (h : w.ownsRow base e 1 (.slice (some ⟨g, 0, Option.none⟩) n n) n xs) : w.heap[g]? = some (.cells xs.toArray e (0, 0)) := by
  rcases h.2 with ⟨he, -⟩ | ⟨g', cap, cur, he, -, hcur, -, -, hsz, htk⟩
  · cases he
  · injection he with h1 h2 h3
    injection h1 with h1
    injection h1 with h1
    subst h1
    subst h3
    rw [hcur]
    have : cur.toList.take (n * 1) = cur.toList := List.take_of_length_le (by rw [Array.length_toList, hsz]; exact Nat.le_refl _)
    rw [this] at htk
    rw [← htk]
theorem rws_two {w : World} {A1 A2 : Option Addr} {c1 c2 B : Nat} {x y : List Ev} (t : TypeId) (hB : B ≤ w.heap.size) (h1 : Rws EvC 5 w B A1 x.length x) (g1 : x.length ≤ c1) (m1 : c1 ≤ maxLen) (h2 : Rws EvC 5 w B A2 y.length y) (g2 : y.length ≤ c2) (m2 : c2 ≤ maxLen) :
    Rws (SliceOf EvC 5) 1 (w.alloc (Obj.cells #[.slice A1 x.length c1, .slice A2 y.length c2] t)) (w.heap.size + 1) (some ⟨w.heap.size, 0, Option.none⟩) 2 [x, y] := by
  have hb := (box_below w (Obj.cells #[.slice A1 x.length c1, .slice A2 y.length c2] t)).mono hB
  refine ⟨rfl, fun _ => ⟨w.heap.size, 0, rfl, Nat.lt_succ_self _, fun k v hv => ?_⟩⟩
  have one : ∀ (u : Value) (k : Nat), (w.alloc (Obj.cells #[.slice A1 x.length c1, .slice A2 y.length c2] t)).cell? ⟨w.heap.size, k, Option.none⟩ = some u → (w.alloc (Obj.cells #[.slice A1 x.length c1, .slice A2 y.length c2] t)).rangeAt w.heap.size (0 + k * 1) [u] := by
    intro u k hu j v hv
    have hj : j = 0 := by have := (List.getElem?_eq_some_iff.1 hv).1; simp at this; exact this
    subst hj
    simp only [List.getElem?_cons_zero, Option.some.injEq] at hv
    subst hv
    simpa using hu
  have hk : k < 2 := (List.getElem?_eq_some_iff.1 hv).1
  match k, hk, hv with
  | 0, _, hv => cases hv; exact ⟨_, rfl, ⟨A1, c1, rfl, g1, m1, h1.mono EvC.mono (by omega) hb⟩, one _ 0 (by go_simp)⟩
  | 1, _, hv => cases hv; exact ⟨_, rfl, ⟨A2, c2, rfl, g2, m2, h2.mono EvC.mono (by omega) hb⟩, one _ 1 (by go_simp)⟩

/-- As wpList_push; every other block is as it was; where the row lies then. -/
theorem wpList_push_own {P : Program} {ops : Array Oper} {rest : List Oper} {o : Oper} {a : Act} {Q : Exit → Act → World → Prop} (s x : Operand) (t : TypeId) {base : Nat} {e : TypeId} {i : TypeInfo} {z : Value} {size bytes : Nat}
    {v : Value} {n : Nat} {xs : List Value} {w1 wr : World} {news : Array Value} (hgd : o.guard = Option.none)
    (ho : o.op = .call { callee := .builtin .append, args := #[s, x], argTypes := #[t, t] })
    (ht : P.underlying t = some (.slice e)) (hi : P.info? e = some i) (hz : i.zero = some z) (hsize : i.size = size) (hby : i.bytes = bytes) (hzs : z.cells.size = size) (hsz : 0 < size)
    (hs : a.eval s = v) (hown : wr.ownsRow base e size v n xs) (hbel : Below base w1 wr) (H : Nat) (hH : wr.heap.size = H) (hx : a.eval x = .slice (some ⟨H, 0, Option.none⟩) 1 1) (hn : news.size = size) (h1 : ∀ u ∈ news.toList, u.oneCell' = true)
    (hbytes : (n + 1) * bytes ≤ 140737488355328) (hmax : n + 1 ≤ maxLen) (hbase : base ≤ wr.heap.size)
    (h : ∀ v' w', w'.ownsRow base e size v' (n + 1) (xs ++ news.toList) → Below base w1 w' → wr.heap.size ≤ w'.heap.size → (∀ b, b < wr.heap.size → v.ownBlock ≠ some b → w'.heap[b]? = wr.heap[b]?) → (∀ b, b < wr.heap.size → v.ownBlock ≠ some b → v'.ownBlock ≠ some b) → wpList P ops Q rest (a.put o.dst v') w') :
    wpList P ops Q (o :: rest) a (wr.alloc (.cells news e)) := by
  subst hH
  have hb1 : Below base w1 (wr.alloc (.cells news e)) := hbel.alloc hbase _
  refine wpList_append_own_at _ hgd s x t ho base e i z size bytes ht hi hz hsize hby hzs hsz v n xs hs (hown.alloc _) ⟨wr.heap.size, 0, Option.none⟩ 1 1 news.toList hx (by simp [hn]) ?_ h1 hmax hbytes (by simp; omega) ?_
  · intro j u hu
    have h2 := cell_of_row (wr.alloc (.cells news e)) wr.heap.size j news e (0, 0) (heap_alloc_new wr _)
    rw [Addr.add_mid, Nat.zero_add, h2]
    simpa using hu
  · intro v' w' hown' hg _ hat2
    have hsz' := hg.size
    simp only [World.size_alloc] at hsz'
    refine h v' w' hown' (hb1.grown hg (by simp; omega) fun k hk => ?_) (by omega) (fun b hb hne => ?_) fun b hb hne => ?_
    · exact (hown.lt k hk).1
    · rw [hg.block b (by simp; omega) (Ne.symm hne)]
      exact Below.heap_alloc _ _ _ hb
    · rcases hat2 with h' | h'
      · rw [h']; exact hne
      · rw [h']
        simp only [World.size_alloc, ne_eq, Option.some.injEq]
        omega
end Go.Proofs.YtcoablindoknpaaDoor
