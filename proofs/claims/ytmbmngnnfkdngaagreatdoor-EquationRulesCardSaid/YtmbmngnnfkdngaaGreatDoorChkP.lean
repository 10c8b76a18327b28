/-
  The check of kinds in plain words. No program is named here.
-/
import Derived.Test.YtmbmngnnfkdngaaGreatDoorEqP
namespace Go.Proofs.YtmbmngnnfkdngaaGreatDoor

/-- A signal of the environment. -/
structure Sg where
  nm : List UInt8
  kind : Int

def kindOf (env : List Sg) (s : List UInt8) : Option Int := (env.find? fun x => decide (x.nm = s)).map (·.kind)
def sgB (s : Sg) : Bool := nameB s.nm && (decide (s.kind = 1) || decide (s.kind = 2))
def goodG (pre : List Sg) : List Sg → Bool
  | [] => true
  | s :: l => sgB s && ((kindOf pre s.nm).isNone && goodG (pre ++ [s]) l)
def goodP (env : List Sg) : Bool := goodG [] env

def sigP (op : Int) : Int × Int :=
  if op = 8 ∨ op = 9 ∨ op = 10 then (2, 1)
  else if op = 2 ∨ op = 11 ∨ op = 12 ∨ op = 13 ∨ op = 14 ∨ op = 15 then (2, 2)
  else if op = 22 then (1, 2) else (1, 1)

/-- A node's kind (or 0) and error, from its operands' kinds. -/
def chkN (env : List Sg) (op : Int) (nm : List UInt8) (l : List Int) : Int × Int :=
  if op = 3 then match kindOf env nm with
    | none => (0, 9)
    | some k => (k, 0)
  else if op = 16 then (if l.getD 0 0 ≠ 1 ∨ l.getD 1 0 ≠ l.getD 2 0 then (0, 10) else (l.getD 1 0, 0))
  else if l.all (fun k => decide (k = (sigP op).1)) then ((sigP op).2, 0) else (0, 10)
/-- The operands' kinds, or the first error. -/
def chkL (f : Ex → Int × Int) : List Int → List Ex → Except Int (List Int)
  | acc, [] => .ok acc
  | acc, k :: ks => if (f k).2 = 0 then chkL f (acc ++ [(f k).1]) ks else .error (f k).2
/-- The kind of an expression that is at most d deep. -/
def chkG (env : List Sg) : Nat → Ex → Int × Int
  | 0, _ => (0, 0)
  | d + 1, .mk op _ nm ks => match chkL (chkG env d) [] ks with
    | .error e => (0, e)
    | .ok l => chkN env op nm l
def checkP (x : Ex) (env : List Sg) : Int × Int := if goodP env = false ∨ validP x = false then (0, 1) else chkG env 16 x

theorem kindOf_snoc (pre : List Sg) (s : Sg) (h : kindOf pre s.nm = none) (x : List UInt8) : kindOf (pre ++ [s]) x = if x = s.nm then some s.kind else kindOf pre x := by
  unfold kindOf at *
  rw [List.find?_append]
  by_cases hx : x = s.nm
  · subst hx
    rw [if_pos rfl]
    cases hf : pre.find? fun y => decide (y.nm = s.nm) with
    | none => simp
    | some y => rw [hf] at h; cases h
  · rw [if_neg hx]
    cases hf : pre.find? fun y => decide (y.nm = x) with
    | none => simp [Ne.symm hx]
    | some y => simp
end Go.Proofs.YtmbmngnnfkdngaaGreatDoor
