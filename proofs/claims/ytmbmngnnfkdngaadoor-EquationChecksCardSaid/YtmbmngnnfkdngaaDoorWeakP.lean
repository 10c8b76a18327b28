/-
  A further name in the environment, in plain words. No program is named here.
-/
import Derived.Test.YtmbmngnnfkdngaaDoorChkP
namespace Go.Proofs.YtmbmngnnfkdngaaDoor

/-- The name does not occur, d levels deep. -/
def noG (s : List UInt8) : Nat → Ex → Prop
  | 0, _ => True
  | d + 1, .mk _ _ nm ks => nm ≠ s ∧ ∀ k ∈ ks, noG s d k
theorem kindOf_more (env : List Sg) {s x : List UInt8} (k : Int) (hx : x ≠ s) : kindOf (env ++ [⟨s, k⟩]) x = kindOf env x := by
  unfold kindOf
  rw [List.find?_append]
  cases hf : env.find? fun y => decide (y.nm = x) with
  | none => simp [Ne.symm hx]
  | some y => simp
theorem chkL_eq {f g : Ex → Int × Int} : ∀ (ks : List Ex) (acc : List Int), (∀ k ∈ ks, f k = g k) → chkL f acc ks = chkL g acc ks
  | [], acc, _ => rfl
  | k :: ks, acc, h => by
    unfold chkL
    rw [h k (List.mem_cons_self ..)]
    split
    · exact chkL_eq ks _ (fun y hy => h y (List.mem_cons_of_mem _ hy))
    · rfl
theorem chkG_succ (env : List Sg) (d : Nat) (op n : Int) (nm : List UInt8) (ks : List Ex) : chkG env (d + 1) (.mk op n nm ks) = match chkL (chkG env d) [] ks with
    | .error e => (0, e)
    | .ok l => chkN env op nm l := rfl
theorem chkG_more (env : List Sg) {s : List UInt8} (kd : Int) : ∀ (d : Nat) (x : Ex), noG s d x → chkG (env ++ [⟨s, kd⟩]) d x = chkG env d x
  | 0, _, _ => rfl
  | d + 1, .mk op n nm ks, h => by
    obtain ⟨h1, h2⟩ := h
    have he : chkL (chkG (env ++ [(⟨s, kd⟩ : Sg)]) d) [] ks = chkL (chkG env d) [] ks := chkL_eq ks [] (fun k hk => chkG_more env kd d k (h2 k hk))
    rw [chkG_succ, chkG_succ, he]
    cases chkL (chkG env d) [] ks with
    | error e => rfl
    | ok l => simp only [chkN, kindOf_more env kd h1]
theorem goodG_snoc : ∀ (l pre : List Sg) (s : Sg), goodG pre (l ++ [s]) = (goodG pre l && (sgB s && (kindOf (pre ++ l) s.nm).isNone))
  | [], pre, s => by simp [goodG]
  | x :: l, pre, s => by
    rw [List.cons_append]
    unfold goodG
    rw [goodG_snoc l (pre ++ [x]) s, List.append_assoc, List.singleton_append]
    cases sgB x <;> cases (kindOf pre x.nm).isNone <;> simp
theorem kindOf_none {env : List Sg} {s : List UInt8} (h : ∀ y ∈ env, y.nm ≠ s) : kindOf env s = none := by
  unfold kindOf
  rw [List.find?_eq_none.2 (fun y hy => by simpa using h y hy)]
  rfl
theorem check_more {x : Ex} {env : List Sg} {s : List UInt8} (hs : nameB s = true) (hn : ∀ y ∈ env, y.nm ≠ s) (hx : ∀ d, noG s d x) : checkP x (env ++ [⟨s, 2⟩]) = checkP x env := by
  unfold checkP
  have hg : goodP (env ++ [⟨s, 2⟩]) = goodP env := by
    unfold goodP
    rw [goodG_snoc, List.nil_append, kindOf_none hn]
    simp [sgB, hs]
  rw [hg, chkG_more env 2 16 x (hx 16)]
end Go.Proofs.YtmbmngnnfkdngaaDoor
