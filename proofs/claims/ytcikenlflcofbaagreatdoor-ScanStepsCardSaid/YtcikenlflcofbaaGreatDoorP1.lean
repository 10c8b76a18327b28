/-
  Logic equations in plain words: expressions, their validity, their text, the tokens of a text and its parsing, as functions on lists. No program is named here.
-/
import Derived.Lib.ItoaNum
namespace Go.Proofs.YtcikenlflcofbaaGreatDoor

/-- An expression. -/
inductive Ex where
  | mk (op n : Int) (name : List UInt8) (kids : List Ex)

/-- A token. -/
structure Tok where
  kind : Int
  text : List UInt8
  pos : Int
  n : Int

def letterB (c : UInt8) : Bool := (97 ≤ c && c ≤ 122) || (65 ≤ c && c ≤ 90)
def digitB (c : UInt8) : Bool := 48 ≤ c && c ≤ 57
def wordB (c : UInt8) : Bool := letterB c || digitB c || c == 95

def opWords : List (List UInt8) := [[110, 111, 116], [97, 110, 100], [111, 114], [120, 111, 114], [60], [62], [61], [43], [45], [109, 105, 110], [109, 97, 120], [97, 98, 115], [105, 102], [114, 105, 115, 101], [102, 97, 108, 108], [100, 101, 108, 97, 121], [104, 111, 108, 100], [108, 97, 116, 99, 104], [99, 111, 117, 110, 116]]
def resWords : List (List UInt8) := [[116, 114, 117, 101], [102, 97, 108, 115, 101], [110, 111, 116], [97, 110, 100], [111, 114], [120, 111, 114], [109, 105, 110], [109, 97, 120], [97, 98, 115], [105, 102], [114, 105, 115, 101], [102, 97, 108, 108], [100, 101, 108, 97, 121], [104, 111, 108, 100], [108, 97, 116, 99, 104], [99, 111, 117, 110, 116]]
def callWords : List (List UInt8) := [[109, 105, 110], [109, 97, 120], [97, 98, 115], [105, 102], [114, 105, 115, 101], [102, 97, 108, 108], [100, 101, 108, 97, 121], [104, 111, 108, 100], [108, 97, 116, 99, 104], [99, 111, 117, 110, 116]]
def reservedB (s : List UInt8) : Bool := resWords.contains s
/-- station.Name's. -/
def plainB (s : List UInt8) : Bool := match s with
  | [] => false
  | c :: r => decide (r.length < 12) && letterB c && r.all wordB
def nameB (s : List UInt8) : Bool := plainB s && !reservedB s
def wordP (op : Int) : List UInt8 := if 4 ≤ op ∧ op ≤ 22 then opWords.getD (op - 4).toNat [] else []
def opFrom (s : List UInt8) : List (List UInt8) → Int → Int
  | [], _ => 0
  | x :: l, k => if x == s then k else opFrom s l (k + 1)
def operationP (s : List UInt8) : Int := opFrom s opWords 4
def arityP (op : Int) : Int :=
  if op = 1 ∨ op = 2 ∨ op = 3 then 0
  else if op = 4 ∨ op = 15 ∨ op = 17 ∨ op = 18 ∨ op = 19 ∨ op = 20 then 1
  else if op = 16 then 3
  else if 1 ≤ op ∧ op ≤ 22 then 2 else -1
def timedB (op : Int) : Bool := decide (op = 19 ∨ op = 20)
def infixB (op : Int) : Bool := decide (5 ≤ op ∧ op ≤ 12)
def mostP (op : Int) : Int := if op = 1 then 1 else if op = 2 then 32767 else if op = 19 ∨ op = 20 then 500 else 0
def nodeB (op n : Int) (nm : List UInt8) (k : Nat) : Bool :=
  decide ((k : Int) = arityP op) && (if op = 3 then decide (n = 0) && nameB nm else nm.isEmpty && decide (0 ≤ n ∧ n ≤ mostP op))

/-- The nodes that are left behind a list, or none. -/
def vL (f : Nat → Ex → Option Nat) : Nat → List Ex → Option Nat
  | left, [] => some left
  | left, k :: ks => match f left k with
    | none => none
    | some l => vL f l ks
def vG : Nat → Nat → Ex → Option Nat
  | 0, _, _ => none
  | d + 1, left, .mk op n nm ks => if left = 0 ∨ nodeB op n nm ks.length = false then none else vL (vG d) (left - 1) ks
def validP (x : Ex) : Bool := (vG 16 60 x).isSome

/-- What a token's round finds at place i: a token or nothing, and the next place; or an error's place and number. -/
def runB (p : UInt8 → Bool) (t : List UInt8) (i : Nat) : Nat := i + ((t.drop i).takeWhile p).length
def decV (l : List UInt8) : Nat := l.foldl (fun a c => 10 * a + (c.toNat - 48)) 0
def symB (c : UInt8) : Bool := [40, 41, 44, 60, 62, 61, 43, 45].contains c
def cutB (t : List UInt8) (i j : Nat) : List UInt8 := (t.take j).drop i
def tokAt (t : List UInt8) (i : Nat) (c : UInt8) : Except (Int × Int) (Option Tok × Nat) :=
  if c == 32 then .ok (none, i + 1)
  else if letterB c then
    if 12 < runB wordB t (i + 1) - i then .error (i, 7) else .ok (some ⟨1, cutB t i (runB wordB t (i + 1)), i, 0⟩, runB wordB t (i + 1))
  else if digitB c then
    if 32767 < decV (cutB t i (runB digitB t (i + 1))) ∨ (1 < (cutB t i (runB digitB t (i + 1))).length ∧ c = 48) then .error (i, 2)
    else .ok (some ⟨2, cutB t i (runB digitB t (i + 1)), i, decV (cutB t i (runB digitB t (i + 1)))⟩, runB digitB t (i + 1))
  else if symB c then .ok (some ⟨3, [c], i, 0⟩, i + 1) else .error (i, 5)
def toksG (t : List UInt8) : Nat → Nat → List Tok → Except (Int × Int) (List Tok)
  | 0, _, acc => .ok acc
  | f + 1, i, acc => match t[i]? with
    | none => .ok acc
    | some c => match tokAt t i c with
      | .error e => .error e
      | .ok (none, j) => toksG t f j acc
      | .ok (some k, j) => toksG t f j (acc ++ [k])
def endTok (t : List UInt8) : Tok := ⟨0, [], t.length, 0⟩
/-- The tokens of a text, without the one at its end. -/
def toksP (t : List UInt8) : Except (Int × Int) (List Tok) := toksG t (t.length + 1) 0 []

/-- What a part of the parser comes to: nothing yet (more rounds wanted), an error, or what was read, the next place and the first late delay. -/
abbrev Res (α : Type) := Option (Except (Int × Int) (α × Nat × Int))
def tk (L : List Tok) (i : Nat) : Tok := L.getD i ⟨0, [], 0, 0⟩
def takeI (L : List Tok) (i : Nat) : Nat := if (tk L i).kind = 0 then i else i + 1
def isT (L : List Tok) (i : Nat) (s : List UInt8) : Bool := (tk L i).text == s
def stopT {α : Type} (L : List Tok) (i : Nat) : Res α := some (.error ((tk L i).pos, 6))
/-- A part's outcome handed on. -/
def Res.go {α β : Type} (r : Res α) (f : α → Nat → Int → Res β) : Res β := match r with
  | none => none
  | some (.error e) => some (.error e)
  | some (.ok (x, i, late)) => f x i late
def needP {α : Type} (L : List Tok) (s : List UInt8) (i : Nat) (f : Nat → Res α) : Res α := if isT L i s then f (takeI L i) else stopT L i
/-- Operands joined by operators of one level, behind the first. -/
def pMore (L : List Tok) (e : Nat → Int → Res Ex) (ops : List (List UInt8)) : Nat → Ex → Nat → Int → Res Ex
  | 0, _, _, _ => none
  | g + 1, x, i, late => if ops.contains (tk L i).text then (e (takeI L i) late).go fun y j la => pMore L e ops g (.mk (operationP (tk L i).text) 0 [] [x, y]) j la
    else some (.ok (x, i, late))
def pChain (L : List Tok) (e : Nat → Int → Res Ex) (ops : List (List UInt8)) (g : Nat) (i : Nat) (late : Int) : Res Ex := (e i late).go fun x j la => pMore L e ops g x j la
/-- The operands of a call: k more behind acc. -/
def pArgs (L : List Tok) (e : Nat → Int → Res Ex) : Nat → List Ex → Nat → Int → Res (List Ex)
  | 0, acc, i, late => some (.ok (acc, i, late))
  | k + 1, acc, i, late => if acc.isEmpty then (e i late).go fun y j la => pArgs L e k (acc ++ [y]) j la
    else needP L [44] i fun i' => (e i' late).go fun y j la => pArgs L e k (acc ++ [y]) j la
def pLast (L : List Tok) (op n : Int) (ks : List Ex) (i : Nat) (late : Int) : Res Ex := needP L [41] i fun j => some (.ok (.mk op n [] ks, j, late))
def pCall (L : List Tok) (e : Nat → Int → Res Ex) (op : Int) (i : Nat) (late : Int) : Res Ex :=
  needP L [40] i fun i1 => (pArgs L e (arityP op).toNat [] i1 late).go fun ks i2 la =>
    if timedB op then needP L [44] i2 fun i3 =>
      if (tk L i3).kind = 2 then pLast L op (tk L i3).n ks (takeI L i3) (if 500 < (tk L i3).n ∧ la < 0 then (tk L i3).pos else la) else stopT L i3
    else pLast L op 0 ks i2 la
def pPrim (L : List Tok) (e : Nat → Int → Res Ex) (i : Nat) (late : Int) : Res Ex :=
  if isT L i [40] then (e (takeI L i) late).go fun x j la => needP L [41] j fun k => some (.ok (x, k, la))
  else if isT L i [116, 114, 117, 101] then some (.ok (.mk 1 1 [] [], takeI L i, late))
  else if isT L i [102, 97, 108, 115, 101] then some (.ok (.mk 1 0 [] [], takeI L i, late))
  else if callWords.contains (tk L i).text then pCall L e (operationP (tk L i).text) (takeI L i) late
  else if (tk L i).kind = 2 then some (.ok (.mk 2 (tk L i).n [] [], takeI L i, late))
  else if (tk L i).kind = 1 ∧ reservedB (tk L i).text = false then some (.ok (.mk 3 0 (tk L i).text [], takeI L i, late))
  else stopT L i
inductive Lv where
  | expr | xor | conj | neg | rel | sum | prim
/-- The parser's parts, f rounds deep. -/
def pLev (L : List Tok) : Nat → Lv → Nat → Int → Res Ex
  | 0, _, _, _ => none
  | f + 1, .expr, i, late => pChain L (pLev L f .xor) [[111, 114]] f i late
  | f + 1, .xor, i, late => pChain L (pLev L f .conj) [[120, 111, 114]] f i late
  | f + 1, .conj, i, late => pChain L (pLev L f .neg) [[97, 110, 100]] f i late
  | f + 1, .neg, i, late => if isT L i [110, 111, 116] then (pLev L f .neg (takeI L i) late).go fun x j la => some (.ok (.mk 4 0 [] [x], j, la)) else pLev L f .rel i late
  | f + 1, .rel, i, late => (pLev L f .sum i late).go fun x j la =>
      if [[60], [62], [61]].contains (tk L j).text then (pLev L f .sum (takeI L j) la).go fun y k lb => some (.ok (.mk (operationP (tk L j).text) 0 [] [x, y], k, lb))
      else some (.ok (x, j, la))
  | f + 1, .sum, i, late => pChain L (pLev L f .prim) [[43], [45]] f i late
  | f + 1, .prim, i, late => pPrim L (pLev L f .expr) i late

def Ex.zero : Ex := .mk 0 0 [] []
/-- Parse's answer once the parser's part has come to an end. -/
def endP (L : List Tok) (x : Ex) (i : Nat) (late : Int) : Ex × Int × Int :=
  if (tk L i).kind ≠ 0 then (.zero, (tk L i).pos, 6) else if 0 ≤ late then (.zero, late, 2) else if validP x then (x, 0, 0) else (.zero, 0, 17)
def parseF (f : Nat) (t : List UInt8) : Option (Ex × Int × Int) :=
  if 120 < t.length then some (.zero, 0, 4) else match toksP t with
    | .error (a, e) => some (.zero, a, e)
    | .ok l => match pLev (l ++ [endTok t]) f .expr 0 (-1) with
      | none => none
      | some (.error (a, e)) => some (.zero, a, e)
      | some (.ok (x, i, late)) => some (endP (l ++ [endTok t]) x i late)
end Go.Proofs.YtcikenlflcofbaaGreatDoor

/-
  The check of kinds in plain words. No program is named here.
-/
namespace Go.Proofs.YtcikenlflcofbaaGreatDoor

/-- A signal of the environment. -/
structure Sg where
  nm : List UInt8
  kind : Int

def kindOf (env : List Sg) (s : List UInt8) : Option Int := (env.find? fun x => decide (x.nm = s)).map (·.kind)
def sgB (s : Sg) : Bool := nameB s.nm && (decide (s.kind = 1) || decide (s.kind = 2))
def goodG (pre : List Sg) : List Sg → Bool
  | [] => true
  | s :: l => sgB s && ((kindOf pre s.nm).isNone && goodG (pre ++ [s]) l)
def goodP (env : List Sg) : Bool := goodG [] env

def sigP (op : Int) : Int × Int :=
  if op = 8 ∨ op = 9 ∨ op = 10 then (2, 1)
  else if op = 2 ∨ op = 11 ∨ op = 12 ∨ op = 13 ∨ op = 14 ∨ op = 15 then (2, 2)
  else if op = 22 then (1, 2) else (1, 1)

/-- A node's kind (or 0) and error, from its operands' kinds. -/
def chkN (env : List Sg) (op : Int) (nm : List UInt8) (l : List Int) : Int × Int :=
  if op = 3 then match kindOf env nm with
    | none => (0, 9)
    | some k => (k, 0)
  else if op = 16 then (if l.getD 0 0 ≠ 1 ∨ l.getD 1 0 ≠ l.getD 2 0 then (0, 10) else (l.getD 1 0, 0))
  else if l.all (fun k => decide (k = (sigP op).1)) then ((sigP op).2, 0) else (0, 10)
/-- The operands' kinds, or the first error. -/
def chkL (f : Ex → Int × Int) : List Int → List Ex → Except Int (List Int)
  | acc, [] => .ok acc
  | acc, k :: ks => if (f k).2 = 0 then chkL f (acc ++ [(f k).1]) ks else .error (f k).2
/-- The kind of an expression that is at most d deep. -/
def chkG (env : List Sg) : Nat → Ex → Int × Int
  | 0, _ => (0, 0)
  | d + 1, .mk op _ nm ks => match chkL (chkG env d) [] ks with
    | .error e => (0, e)
    | .ok l => chkN env op nm l
def checkP (x : Ex) (env : List Sg) : Int × Int := if goodP env = false ∨ validP x = false then (0, 1) else chkG env 16 x

theorem kindOf_snoc (pre : List Sg) (s : Sg) (h : kindOf pre s.nm = none) (x : List UInt8) : kindOf (pre ++ [s]) x = if x = s.nm then some s.kind else kindOf pre x := by
  unfold kindOf at *
  rw [List.find?_append]
  by_cases hx : x = s.nm
  · subst hx
    rw [if_pos rfl]
    cases hf : pre.find? fun y => decide (y.nm = s.nm) with
    | none => simp
    | some y => rw [hf] at h; cases h
  · rw [if_neg hx]
    cases hf : pre.find? fun y => decide (y.nm = x) with
    | none => simp [Ne.symm hx]
    | some y => simp
end Go.Proofs.YtcikenlflcofbaaGreatDoor

/-
  The parser in plain words: more rounds change nothing, and enough rounds always come to an end. No program is named here.
-/
namespace Go.Proofs.YtcikenlflcofbaaGreatDoor

/-- What r comes to, r' comes to as well. -/
def LeR {α : Type} (r r' : Res α) : Prop := ∀ v, r = some v → r' = some v
theorem LeR.refl {α : Type} (r : Res α) : LeR r r := fun _ h => h
theorem LeR.go {α β : Type} {r r' : Res α} {f f' : α → Nat → Int → Res β} (hr : LeR r r') (hf : ∀ x i la, LeR (f x i la) (f' x i la)) : LeR (r.go f) (r'.go f') := by
  intro v h
  unfold Res.go at h
  split at h
  · cases h
  · rename_i e
    rw [hr _ rfl]; exact h
  · rename_i x i la
    rw [hr _ rfl]
    exact hf x i la v h
theorem LeR.need {α : Type} {L : List Tok} {s : List UInt8} {i : Nat} {f f' : Nat → Res α} (hf : ∀ j, LeR (f j) (f' j)) : LeR (needP L s i f) (needP L s i f') := by
  unfold needP
  split
  · exact hf _
  · exact LeR.refl _
def LeE (e e' : Nat → Int → Res Ex) : Prop := ∀ i la, LeR (e i la) (e' i la)
theorem pMore_mono {L : List Tok} {e e' : Nat → Int → Res Ex} (he : LeE e e') (ops : List (List UInt8)) : ∀ g g' x i la, g ≤ g' → LeR (pMore L e ops g x i la) (pMore L e' ops g' x i la)
  | 0, _, _, _, _, _ => fun _ h => by cases h
  | g + 1, 0, _, _, _, h => absurd h (by omega)
  | g + 1, g' + 1, x, i, la, h => by
    unfold pMore
    split
    · exact (he _ _).go fun y j lb => pMore_mono he ops g g' _ _ _ (by omega)
    · exact LeR.refl _
theorem pChain_mono {L : List Tok} {e e' : Nat → Int → Res Ex} (he : LeE e e') (ops : List (List UInt8)) {g g' : Nat} (hg : g ≤ g') (i : Nat) (la : Int) : LeR (pChain L e ops g i la) (pChain L e' ops g' i la) :=
  (he i la).go fun x j lb => pMore_mono he ops g g' x j lb hg
theorem pArgs_mono {L : List Tok} {e e' : Nat → Int → Res Ex} (he : LeE e e') : ∀ k acc i la, LeR (pArgs L e k acc i la) (pArgs L e' k acc i la)
  | 0, _, _, _ => LeR.refl _
  | k + 1, acc, i, la => by
    unfold pArgs
    split
    · exact (he _ _).go fun y j lb => pArgs_mono he k _ _ _
    · exact LeR.need fun i' => (he _ _).go fun y j lb => pArgs_mono he k _ _ _
theorem pCall_mono {L : List Tok} {e e' : Nat → Int → Res Ex} (he : LeE e e') (op : Int) (i : Nat) (la : Int) : LeR (pCall L e op i la) (pCall L e' op i la) :=
  LeR.need fun _ => (pArgs_mono he _ _ _ _).go fun _ _ _ => LeR.refl _
theorem pPrim_mono {L : List Tok} {e e' : Nat → Int → Res Ex} (he : LeE e e') (i : Nat) (la : Int) : LeR (pPrim L e i la) (pPrim L e' i la) := by
  unfold pPrim
  split
  · exact (he _ _).go fun _ _ _ => LeR.refl _
  split
  · exact LeR.refl _
  split
  · exact LeR.refl _
  split
  · exact pCall_mono he _ _ _
  · exact LeR.refl _
theorem pLev_mono (L : List Tok) : ∀ f f' lv, f ≤ f' → LeE (pLev L f lv) (pLev L f' lv)
  | 0, _, _, _ => fun _ _ _ h => by cases h
  | f + 1, 0, _, h => absurd h (by omega)
  | f + 1, f' + 1, lv, h => by
    have ih := fun lv => pLev_mono L f f' lv (by omega)
    intro i la
    cases lv <;> simp only [pLev]
    · exact pChain_mono (ih _) _ (by omega) _ _
    · exact pChain_mono (ih _) _ (by omega) _ _
    · exact pChain_mono (ih _) _ (by omega) _ _
    · split
      · exact (ih _ _ _).go fun _ _ _ => LeR.refl _
      · exact ih _ _ _
    · refine (ih _ _ _).go fun x j lb => ?_
      split
      · exact (ih _ _ _).go fun _ _ _ => LeR.refl _
      · exact LeR.refl _
    · exact pChain_mono (ih _) _ (by omega) _ _
    · exact pPrim_mono (ih _) _ _
theorem parseF_mono {f f' : Nat} (h : f ≤ f') {t : List UInt8} {r : Ex × Int × Int} (hr : parseF f t = some r) : parseF f' t = some r := by
  unfold parseF at hr ⊢
  split at hr
  · rename_i hl; rw [if_pos hl]; exact hr
  · rename_i hl
    rw [if_neg hl]
    cases ht : toksP t with
    | error e => rw [ht] at hr; exact hr
    | ok l =>
      rw [ht] at hr
      simp only at hr ⊢
      split at hr
      · cases hr
      · rename_i hq; rw [pLev_mono _ f f' .expr h _ _ _ hq]; exact hr
      · rename_i hq; rw [pLev_mono _ f f' .expr h _ _ _ hq]; exact hr

/-- Only a token with a text goes on. -/
structure Ends (L : List Tok) : Prop where
  text : ∀ j, (tk L j).kind = 0 → (tk L j).text = []
  last : ∀ j, (tk L j).kind ≠ 0 → j + 1 < L.length
theorem Ends.take {L : List Tok} (h : Ends L) {i : Nat} (hk : (tk L i).text ≠ []) : takeI L i = i + 1 ∧ i + 1 < L.length := by
  have : (tk L i).kind ≠ 0 := fun q => hk (h.text i q)
  exact ⟨by unfold takeI; rw [if_neg this], h.last i this⟩
theorem Ends.isT {L : List Tok} (h : Ends L) {i : Nat} {s : List UInt8} (hs : isT L i s = true) (hn : s ≠ []) : takeI L i = i + 1 ∧ i + 1 < L.length := by
  refine h.take ?_
  unfold Go.Proofs.YtcikenlflcofbaaGreatDoor.isT at hs
  rw [eq_of_beq hs]
  exact hn
/-- What was read lies behind place i. -/
def Fwd {α : Type} (i : Nat) (N : Nat) (r : Res α) : Prop := ∀ x j la, r = some (.ok (x, j, la)) → i < j ∧ j < N
def FwdE (N : Nat) (e : Nat → Int → Res Ex) : Prop := ∀ i la, Fwd i N (e i la)
theorem go_ok {α β : Type} {r : Res α} {f : α → Nat → Int → Res β} {v : β × Nat × Int} (h : r.go f = some (.ok v)) : ∃ x i la, r = some (.ok (x, i, la)) ∧ f x i la = some (.ok v) := by
  unfold Res.go at h
  split at h
  · cases h
  · cases h
  · exact ⟨_, _, _, rfl, h⟩
theorem need_okP {α : Type} {L : List Tok} {s : List UInt8} {i : Nat} {f : Nat → Res α} {v : α × Nat × Int} (h : needP L s i f = some (.ok v)) : isT L i s = true ∧ f (takeI L i) = some (.ok v) := by
  unfold needP at h
  split at h
  · exact ⟨‹_›, h⟩
  · cases h
theorem pMore_fwd {L : List Tok} {e : Nat → Int → Res Ex} (hL : Ends L) (he : FwdE L.length e) (ops : List (List UInt8)) (hops : ops.contains [] = false) : ∀ g x i la y j lb, pMore L e ops g x i la = some (.ok (y, j, lb)) → i < L.length → i ≤ j ∧ j < L.length
  | 0, _, _, _, _, _, _, h, _ => by cases h
  | g + 1, x, i, la, y, j, lb, h, hi => by
    unfold pMore at h
    split at h
    · rename_i hc
      obtain ⟨z, k, lc, h1, h2⟩ := go_ok h
      obtain ⟨t1, t2⟩ := hL.take (i := i) (fun q => by rw [q, hops] at hc; cases hc)
      have a := he _ _ _ _ _ h1
      have b := pMore_fwd hL he ops hops g _ _ _ _ _ _ h2 a.2
      omega
    · cases h; exact ⟨Nat.le_refl _, hi⟩
theorem pChain_fwd {L : List Tok} {e : Nat → Int → Res Ex} (hL : Ends L) (he : FwdE L.length e) (ops : List (List UInt8)) (hops : ops.contains [] = false) (g i : Nat) (la : Int) : Fwd i L.length (pChain L e ops g i la) := by
  intro y j lb h
  obtain ⟨z, k, lc, h1, h2⟩ := go_ok h
  have a := he _ _ _ _ _ h1
  have b := pMore_fwd hL he ops hops g _ _ _ _ _ _ h2 a.2
  omega
theorem pArgs_fwd {L : List Tok} {e : Nat → Int → Res Ex} (hL : Ends L) (he : FwdE L.length e) : ∀ k acc i la ks j lb, pArgs L e k acc i la = some (.ok (ks, j, lb)) → i < L.length → i ≤ j ∧ j < L.length
  | 0, _, _, _, _, _, _, h, hi => by cases h; exact ⟨Nat.le_refl _, hi⟩
  | k + 1, acc, i, la, ks, j, lb, h, hi => by
    unfold pArgs at h
    split at h
    · obtain ⟨z, m, lc, h1, h2⟩ := go_ok h
      have a := he _ _ _ _ _ h1
      have b := pArgs_fwd hL he k _ _ _ _ _ _ h2 a.2
      omega
    · obtain ⟨hc, h'⟩ := need_okP h
      obtain ⟨z, m, lc, h1, h2⟩ := go_ok h'
      obtain ⟨t1, t2⟩ := hL.isT hc (by decide)
      have a := he _ _ _ _ _ h1
      have b := pArgs_fwd hL he k _ _ _ _ _ _ h2 a.2
      omega
theorem pLast_fwd {L : List Tok} (hL : Ends L) {op n : Int} {ks : List Ex} {i : Nat} {la : Int} : Fwd i L.length (pLast L op n ks i la) := by
  intro y j lb h
  obtain ⟨hc, h'⟩ := need_okP h
  obtain ⟨t1, t2⟩ := hL.isT hc (by decide)
  cases h'
  omega
theorem pCall_fwd {L : List Tok} {e : Nat → Int → Res Ex} (hL : Ends L) (he : FwdE L.length e) (op : Int) (i : Nat) (la : Int) : Fwd i L.length (pCall L e op i la) := by
  intro y j lb h
  obtain ⟨hc, h'⟩ := need_okP h
  obtain ⟨t1, t2⟩ := hL.isT hc (by decide)
  obtain ⟨ks, m, lc, h1, h2⟩ := go_ok h'
  have a := pArgs_fwd hL he _ _ _ _ _ _ _ h1 (by omega)
  split at h2
  · obtain ⟨hc2, h3⟩ := need_okP h2
    obtain ⟨t3, t4⟩ := hL.isT hc2 (by decide)
    split at h3
    · rename_i hk
      have := pLast_fwd hL _ _ _ h3
      have t5 : takeI L (takeI L m) = takeI L m + 1 := by unfold takeI; rw [if_neg]; intro q; exact absurd (show (tk L (takeI L m)).kind = 0 from q) (by rw [hk]; decide)
      omega
    · cases h3
  · have := pLast_fwd hL _ _ _ h2
    omega
theorem kind_take {L : List Tok} (hL : Ends L) {i : Nat} (h : (tk L i).kind ≠ 0) : takeI L i = i + 1 ∧ i + 1 < L.length := ⟨by unfold takeI; rw [if_neg h], hL.last i h⟩
theorem pPrim_fwd {L : List Tok} {e : Nat → Int → Res Ex} (hL : Ends L) (he : FwdE L.length e) (i : Nat) (la : Int) : Fwd i L.length (pPrim L e i la) := by
  intro y j lb h
  unfold pPrim at h
  split at h
  · rename_i hc
    obtain ⟨t1, t2⟩ := hL.isT hc (by decide)
    obtain ⟨x, m, lc, h1, h2⟩ := go_ok h
    have a := he _ _ _ _ _ h1
    obtain ⟨hc2, h3⟩ := need_okP h2
    obtain ⟨t3, t4⟩ := hL.isT hc2 (by decide)
    cases h3
    omega
  split at h
  · rename_i hc
    obtain ⟨t1, t2⟩ := hL.isT hc (by decide)
    cases h; omega
  split at h
  · rename_i hc
    obtain ⟨t1, t2⟩ := hL.isT hc (by decide)
    cases h; omega
  split at h
  · rename_i hc
    obtain ⟨t1, t2⟩ := hL.take (i := i) (fun q => by rw [q] at hc; exact absurd hc (by decide))
    have := pCall_fwd hL he _ _ _ _ _ _ h
    omega
  split at h
  · rename_i hk
    obtain ⟨t1, t2⟩ := kind_take hL (i := i) (by rw [hk]; decide)
    cases h; omega
  split at h
  · rename_i hk
    obtain ⟨t1, t2⟩ := kind_take hL (i := i) (by rw [hk.1]; decide)
    cases h; omega
  · cases h
theorem pLev_fwd {L : List Tok} (hL : Ends L) : ∀ f lv, FwdE L.length (pLev L f lv)
  | 0, _ => fun _ _ _ _ _ h => by cases h
  | f + 1, lv => by
    have ih := fun lv => pLev_fwd hL f lv
    intro i la
    cases lv <;> simp only [pLev]
    · exact pChain_fwd hL (ih _) _ (by decide) _ _ _
    · exact pChain_fwd hL (ih _) _ (by decide) _ _ _
    · exact pChain_fwd hL (ih _) _ (by decide) _ _ _
    · intro y j lb h
      split at h
      · rename_i hc
        obtain ⟨t1, t2⟩ := hL.isT hc (by decide)
        obtain ⟨x, m, lc, h1, h2⟩ := go_ok h
        have a := ih _ _ _ _ _ _ h1
        cases h2; omega
      · exact ih _ _ _ _ _ _ h
    · intro y j lb h
      obtain ⟨x, m, lc, h1, h2⟩ := go_ok h
      have a := ih _ _ _ _ _ _ h1
      split at h2
      · rename_i hc
        obtain ⟨t1, t2⟩ := hL.take (i := m) (fun q => by rw [q] at hc; exact absurd hc (by decide))
        obtain ⟨z, q, ld, h3, h4⟩ := go_ok h2
        have b := ih _ _ _ _ _ _ h3
        cases h4; omega
      · cases h2; exact a
    · exact pChain_fwd hL (ih _) _ (by decide) _ _ _
    · exact pPrim_fwd hL (ih _) _ _

/-- A part comes to an end. -/
def Fin {α : Type} (r : Res α) : Prop := ∃ v, r = some v
theorem Fin.go {α β : Type} {r : Res α} {f : α → Nat → Int → Res β} (hr : Fin r) (hf : ∀ x i la, r = some (.ok (x, i, la)) → Fin (f x i la)) : Fin (r.go f) := by
  obtain ⟨v, rfl⟩ := hr
  rcases v with e | ⟨x, i, la⟩
  · exact ⟨_, rfl⟩
  · exact hf x i la rfl
theorem Fin.need {α : Type} {L : List Tok} {s : List UInt8} {i : Nat} {f : Nat → Res α} (hf : isT L i s = true → Fin (f (takeI L i))) : Fin (needP L s i f) := by
  unfold needP
  split
  · exact hf ‹_›
  · exact ⟨_, rfl⟩
theorem pMore_fin {L : List Tok} {e : Nat → Int → Res Ex} (hL : Ends L) (he : FwdE L.length e) (ops : List (List UInt8)) (hops : ops.contains [] = false) : ∀ g x i la, (∀ j la, i < j → Fin (e j la)) → L.length - i < g → i < L.length → Fin (pMore L e ops g x i la)
  | 0, _, _, _, _, h, _ => absurd h (by omega)
  | g + 1, x, i, la, hf, hg, hi => by
    unfold pMore
    split
    · rename_i hc
      obtain ⟨t1, t2⟩ := hL.take (i := i) (fun q => by rw [q, hops] at hc; cases hc)
      refine (hf _ _ (by omega)).go fun y j lb h => ?_
      have a := he _ _ _ _ _ h
      exact pMore_fin hL he ops hops g _ _ _ (fun k lc hk => hf k lc (by omega)) (by omega) a.2
    · exact ⟨_, rfl⟩
theorem pChain_fin {L : List Tok} {e : Nat → Int → Res Ex} (hL : Ends L) (he : FwdE L.length e) (ops : List (List UInt8)) (hops : ops.contains [] = false) (g i : Nat) (la : Int) (hf : ∀ j la, i ≤ j → Fin (e j la)) (hg : L.length - i < g) : Fin (pChain L e ops g i la) :=
  (hf i la (Nat.le_refl _)).go fun x j lb h => by
    have a := he _ _ _ _ _ h
    exact pMore_fin hL he ops hops g _ _ _ (fun k lc hk => hf k lc (by omega)) (by omega) a.2
theorem pArgs_fin {L : List Tok} {e : Nat → Int → Res Ex} (hL : Ends L) (he : FwdE L.length e) : ∀ k acc i la, (∀ j la, i ≤ j → Fin (e j la)) → Fin (pArgs L e k acc i la)
  | 0, _, _, _, _ => ⟨_, rfl⟩
  | k + 1, acc, i, la, hf => by
    unfold pArgs
    split
    · exact (hf _ _ (Nat.le_refl _)).go fun y j lb h => pArgs_fin hL he k _ _ _ fun q lc hq => hf q lc (by have := he _ _ _ _ _ h; omega)
    · refine Fin.need fun hc => ?_
      obtain ⟨t1, t2⟩ := hL.isT hc (by decide)
      exact (hf _ _ (by omega)).go fun y j lb h => pArgs_fin hL he k _ _ _ fun q lc hq => hf q lc (by have := he _ _ _ _ _ h; omega)
theorem pCall_fin {L : List Tok} {e : Nat → Int → Res Ex} (hL : Ends L) (he : FwdE L.length e) (op : Int) (i : Nat) (la : Int) (hf : ∀ j la, i ≤ j → Fin (e j la)) : Fin (pCall L e op i la) := by
  refine Fin.need fun hc => ?_
  obtain ⟨t1, t2⟩ := hL.isT hc (by decide)
  refine (pArgs_fin hL he _ _ _ _ fun j lb hj => hf j lb (by omega)).go fun ks j lb _ => ?_
  split
  · refine Fin.need fun _ => ?_
    split
    · exact Fin.need fun _ => ⟨_, rfl⟩
    · exact ⟨_, rfl⟩
  · exact Fin.need fun _ => ⟨_, rfl⟩
theorem pPrim_fin {L : List Tok} {e : Nat → Int → Res Ex} (hL : Ends L) (he : FwdE L.length e) (i : Nat) (la : Int) (hf : ∀ j la, i < L.length → i < j → Fin (e j la)) : Fin (pPrim L e i la) := by
  unfold pPrim
  split
  · rename_i hc
    obtain ⟨t1, t2⟩ := hL.isT hc (by decide)
    exact (hf _ _ (by omega) (by omega)).go fun _ _ _ _ => Fin.need fun _ => ⟨_, rfl⟩
  split
  · exact ⟨_, rfl⟩
  split
  · exact ⟨_, rfl⟩
  split
  · rename_i hc
    obtain ⟨t1, t2⟩ := hL.take (i := i) (fun q => by rw [q] at hc; exact absurd hc (by decide))
    exact pCall_fin hL he _ _ _ fun j lb hj => hf j lb (by omega) (by omega)
  split
  · exact ⟨_, rfl⟩
  split
  · exact ⟨_, rfl⟩
  · exact ⟨_, rfl⟩
def rankL : Lv → Nat
  | .expr => 7 | .xor => 6 | .conj => 5 | .neg => 4 | .rel => 3 | .sum => 2 | .prim => 1
theorem pLev_fin {L : List Tok} (hL : Ends L) : ∀ f lv i la, 8 * (L.length - i) + rankL lv ≤ f → Fin (pLev L f lv i la)
  | 0, lv, _, _, h => by cases lv <;> simp [rankL] at h
  | f + 1, lv, i, la, h => by
    have ih := fun lv i la => pLev_fin hL f lv i la
    have fw := fun lv => pLev_fwd hL f lv
    cases lv <;> simp only [pLev] <;> simp only [rankL] at h ih
    · exact pChain_fin hL (fw _) _ (by decide) _ _ _ (fun j lb hj => ih .xor j lb (by simp only []; omega)) (by omega)
    · exact pChain_fin hL (fw _) _ (by decide) _ _ _ (fun j lb hj => ih .conj j lb (by simp only []; omega)) (by omega)
    · exact pChain_fin hL (fw _) _ (by decide) _ _ _ (fun j lb hj => ih .neg j lb (by simp only []; omega)) (by omega)
    · split
      · rename_i hc
        obtain ⟨t1, t2⟩ := hL.isT hc (by decide)
        exact (ih .neg _ _ (by simp only []; omega)).go fun _ _ _ _ => ⟨_, rfl⟩
      · exact ih .rel _ _ (by simp only []; omega)
    · refine (ih .sum _ _ (by simp only []; omega)).go fun x j lb hx => ?_
      have a := fw _ _ _ _ _ _ hx
      split
      · rename_i hc
        obtain ⟨t1, t2⟩ := hL.take (i := j) (fun q => by rw [q] at hc; exact absurd hc (by decide))
        exact (ih .sum _ _ (by simp only []; omega)).go fun _ _ _ _ => ⟨_, rfl⟩
      · exact ⟨_, rfl⟩
    · exact pChain_fin hL (fw _) _ (by decide) _ _ _ (fun j lb hj => ih .prim j lb (by simp only []; omega)) (by omega)
    · exact pPrim_fin hL (fw _) _ _ fun j lb hi hj => ih .expr j lb (by simp only []; omega)
/-- The parser's errors are of one kind. -/
def Err6 {α : Type} (r : Res α) : Prop := ∀ a e, r = some (.error (a, e)) → e = 6
theorem Err6.go {α β : Type} {r : Res α} {f : α → Nat → Int → Res β} (hr : Err6 r) (hf : ∀ x i la, Err6 (f x i la)) : Err6 (r.go f) := by
  intro a e h
  unfold Res.go at h
  split at h
  · cases h
  · cases h; exact hr a e rfl
  · exact hf _ _ _ a e h
theorem Err6.ok {α : Type} (v : α × Nat × Int) : Err6 (some (.ok v) : Res α) := fun _ _ h => by cases h
theorem Err6.stop {α : Type} (L : List Tok) (i : Nat) : Err6 (stopT L i : Res α) := fun _ _ h => by cases h; rfl
theorem Err6.need {α : Type} {L : List Tok} {s : List UInt8} {i : Nat} {f : Nat → Res α} (hf : ∀ j, Err6 (f j)) : Err6 (needP L s i f) := by
  unfold needP
  split
  · exact hf _
  · exact Err6.stop _ _
theorem pMore_err {L : List Tok} {e : Nat → Int → Res Ex} (he : ∀ i la, Err6 (e i la)) (ops : List (List UInt8)) : ∀ g x i la, Err6 (pMore L e ops g x i la)
  | 0, _, _, _ => fun _ _ h => by cases h
  | g + 1, x, i, la => by
    unfold pMore
    split
    · exact (he _ _).go fun _ _ _ => pMore_err he ops g _ _ _
    · exact Err6.ok _
theorem pArgs_err {L : List Tok} {e : Nat → Int → Res Ex} (he : ∀ i la, Err6 (e i la)) : ∀ k acc i la, Err6 (pArgs L e k acc i la)
  | 0, _, _, _ => Err6.ok _
  | k + 1, acc, i, la => by
    unfold pArgs
    split
    · exact (he _ _).go fun _ _ _ => pArgs_err he k _ _ _
    · exact Err6.need fun _ => (he _ _).go fun _ _ _ => pArgs_err he k _ _ _
theorem pCall_err {L : List Tok} {e : Nat → Int → Res Ex} (he : ∀ i la, Err6 (e i la)) (op : Int) (i : Nat) (la : Int) : Err6 (pCall L e op i la) := by
  refine Err6.need fun _ => (pArgs_err he _ _ _ _).go fun _ _ _ => ?_
  split
  · refine Err6.need fun _ => ?_
    split
    · exact Err6.need fun _ => Err6.ok _
    · exact Err6.stop _ _
  · exact Err6.need fun _ => Err6.ok _
theorem pPrim_err {L : List Tok} {e : Nat → Int → Res Ex} (he : ∀ i la, Err6 (e i la)) (i : Nat) (la : Int) : Err6 (pPrim L e i la) := by
  unfold pPrim
  split
  · exact (he _ _).go fun _ _ _ => Err6.need fun _ => Err6.ok _
  split
  · exact Err6.ok _
  split
  · exact Err6.ok _
  split
  · exact pCall_err he _ _ _
  split
  · exact Err6.ok _
  split
  · exact Err6.ok _
  · exact Err6.stop _ _
theorem pLev_err6 (L : List Tok) : ∀ f lv i la, Err6 (pLev L f lv i la)
  | 0, _, _, _ => fun _ _ h => by cases h
  | f + 1, lv, i, la => by
    have ih := fun lv i la => pLev_err6 L f lv i la
    cases lv <;> simp only [pLev]
    · exact (ih _ _ _).go fun _ _ _ => pMore_err (ih _) _ _ _ _ _
    · exact (ih _ _ _).go fun _ _ _ => pMore_err (ih _) _ _ _ _ _
    · exact (ih _ _ _).go fun _ _ _ => pMore_err (ih _) _ _ _ _ _
    · split
      · exact (ih _ _ _).go fun _ _ _ => Err6.ok _
      · exact ih _ _ _
    · refine (ih _ _ _).go fun _ _ _ => ?_
      split
      · exact (ih _ _ _).go fun _ _ _ => Err6.ok _
      · exact Err6.ok _
    · exact (ih _ _ _).go fun _ _ _ => pMore_err (ih _) _ _ _ _ _
    · exact pPrim_err (ih _) _ _
theorem pLev_err {L : List Tok} {f : Nat} {lv : Lv} {i : Nat} {la a : Int} (h : pLev L f lv i la = some (.error (a, 0))) : False := absurd (pLev_err6 L f lv i la a 0 h) (by decide)
end Go.Proofs.YtcikenlflcofbaaGreatDoor

/-
  The tokens of a text in plain words: what each of them is, how many there are. No program is named here.
-/
namespace Go.Proofs.YtcikenlflcofbaaGreatDoor

/-- A token of a text. -/
structure TokW (t : List UInt8) (k : Tok) : Prop where
  kind : k.kind = 1 ∨ k.kind = 2 ∨ k.kind = 3
  text : k.text ≠ []
  pos : 0 ≤ k.pos ∧ k.pos < t.length
  word : k.kind = 1 → k.text.length ≤ 12 ∧ (∃ c r, k.text = c :: r ∧ letterB c = true ∧ r.all wordB = true) ∧ k.n = 0
  num : k.kind = 2 → k.text.all digitB = true ∧ k.n = decV k.text ∧ k.n ≤ 32767 ∧ (1 < k.text.length → k.text.head? ≠ some 48) ∧ k.text.length ≤ 5
  sym : k.kind = 3 → (∃ c, k.text = [c] ∧ symB c = true) ∧ k.n = 0
theorem runB_le (p : UInt8 → Bool) (t : List UInt8) (i : Nat) : i ≤ runB p t i ∧ (i ≤ t.length → runB p t i ≤ t.length) := by
  unfold runB
  have : ((t.drop i).takeWhile p).length ≤ (t.drop i).length := (List.takeWhile_prefix p).length_le
  rw [List.length_drop] at this
  omega
theorem cut_run (p : UInt8 → Bool) (t : List UInt8) (i : Nat) (c : UInt8) (h : t[i]? = some c) : cutB t i (runB p t (i + 1)) = c :: (t.drop (i + 1)).takeWhile p := by
  obtain ⟨hi, rfl⟩ := List.getElem?_eq_some_iff.1 h
  unfold cutB runB
  rw [List.drop_take]
  have e : i + 1 + ((t.drop (i + 1)).takeWhile p).length - i = ((t.drop (i + 1)).takeWhile p).length + 1 := by omega
  rw [e, List.drop_eq_getElem_cons hi, List.take_succ_cons]
  congr 1
  exact (List.prefix_iff_eq_take.1 (List.takeWhile_prefix p)).symm
theorem takeWhile_all (p : UInt8 → Bool) (l : List UInt8) : (l.takeWhile p).all p = true := by
  induction l with
  | nil => rfl
  | cons a l ih =>
    rw [List.takeWhile_cons]
    split
    · rename_i h; simp [h, ih]
    · rfl
theorem decV_cons (l : List UInt8) : ∀ a, l.foldl (fun a c => 10 * a + (c.toNat - 48)) a ≥ a * 10 ^ l.length := by
  induction l with
  | nil => intro a; simp
  | cons x l ih =>
    intro a
    have := ih (10 * a + (x.toNat - 48))
    simp only [List.foldl_cons, List.length_cons, Nat.pow_succ]
    have h2 : (10 * a + (x.toNat - 48)) * 10 ^ l.length ≥ 10 * a * 10 ^ l.length := Nat.mul_le_mul_right _ (by omega)
    have h3 : a * (10 ^ l.length * 10) = 10 * a * 10 ^ l.length := by rw [Nat.mul_comm (10 ^ l.length), ← Nat.mul_assoc, Nat.mul_comm a]
    omega
theorem decV_len {c : UInt8} {l : List UInt8} (hd : digitB c = true) (h0 : c ≠ 48) (h : decV (c :: l) ≤ 32767) : l.length ≤ 4 := by
  have hc : 1 ≤ c.toNat - 48 := by
    simp only [digitB, Bool.and_eq_true, decide_eq_true_eq] at hd
    have h1 : 48 ≤ c.toNat := hd.1
    have : c.toNat ≠ 48 := fun q => h0 (UInt8.toNat.inj q)
    omega
  have h1 : decV (c :: l) = l.foldl (fun a c => 10 * a + (c.toNat - 48)) (c.toNat - 48) := by simp [decV]
  have h2 := decV_cons l (c.toNat - 48)
  rw [h1] at h
  by_cases hl : l.length ≤ 4
  · exact hl
  · exfalso
    have h3 : (10 : Nat) ^ 5 ≤ 10 ^ l.length := Nat.pow_le_pow_right (by omega) (by omega)
    have h4 : 1 * 10 ^ l.length ≤ (c.toNat - 48) * 10 ^ l.length := Nat.mul_le_mul_right _ hc
    omega
/-- One round: a token is one of the text's; the next place lies behind. -/
theorem tokAt_ok {t : List UInt8} {i : Nat} {c : UInt8} (h : t[i]? = some c) {o : Option Tok} {j : Nat} (hk : tokAt t i c = .ok (o, j)) : i < j ∧ j ≤ t.length ∧ ∀ k, o = some k → TokW t k := by
  obtain ⟨hi, -⟩ := List.getElem?_eq_some_iff.1 h
  have hw := runB_le wordB t (i + 1)
  have hn := runB_le digitB t (i + 1)
  unfold tokAt at hk
  split at hk
  · cases hk; exact ⟨by omega, by omega, fun k q => by cases q⟩
  split at hk
  · rename_i hl
    split at hk
    · cases hk
    · rename_i hlen
      cases hk
      refine ⟨by omega, by omega, fun k q => ?_⟩
      cases q
      have hc := cut_run wordB t i c h
      have hcl : (cutB t i (runB wordB t (i + 1))).length = runB wordB t (i + 1) - i := by unfold cutB; rw [List.length_drop, List.length_take]; omega
      exact ⟨.inl rfl, by rw [hc]; exact List.cons_ne_nil _ _, ⟨by simp, by simpa using hi⟩, fun _ => ⟨by rw [hcl]; omega, ⟨c, _, hc, hl, takeWhile_all _ _⟩, rfl⟩, (fun q => by cases q), (fun q => by cases q)⟩
  split at hk
  · rename_i hd
    split at hk
    · cases hk
    · rename_i hv
      cases hk
      refine ⟨by omega, by omega, fun k q => ?_⟩
      cases q
      have hc := cut_run digitB t i c h
      refine ⟨.inr (.inl rfl), by rw [hc]; exact List.cons_ne_nil _ _, ⟨by simp, by simpa using hi⟩, (fun q => by cases q), fun _ => ⟨?_, rfl, ?_, ?_, ?_⟩, (fun q => by cases q)⟩
      · show (cutB t i (runB digitB t (i + 1))).all digitB = true
        rw [hc]; simp only [List.all_cons, hd, Bool.true_and]; exact takeWhile_all _ _
      · show ((decV (cutB t i (runB digitB t (i + 1))) : Nat) : Int) ≤ 32767
        omega
      · show 1 < (cutB t i (runB digitB t (i + 1))).length → (cutB t i (runB digitB t (i + 1))).head? ≠ some 48
        intro h1 h2
        rw [hc] at h2
        cases h2
        exact hv (.inr ⟨h1, rfl⟩)
      · show (cutB t i (runB digitB t (i + 1))).length ≤ 5
        rw [hc] at hv ⊢
        by_cases h0 : c = 48
        · have : ¬ 1 < (c :: (t.drop (i + 1)).takeWhile digitB).length := fun q => hv (.inr ⟨q, h0⟩)
          omega
        · have := decV_len hd h0 (Nat.le_of_not_lt fun q => hv (.inl q))
          simp only [List.length_cons]
          omega
  split at hk
  · rename_i hs
    cases hk
    exact ⟨by omega, by omega, fun k q => by cases q; exact ⟨.inr (.inr rfl), List.cons_ne_nil _ _, ⟨by simp, by simpa using hi⟩, (fun q => by cases q), (fun q => by cases q), fun _ => ⟨⟨c, rfl, hs⟩, rfl⟩⟩⟩
  · cases hk
theorem toksG_ok (t : List UInt8) : ∀ f i acc l, i ≤ t.length → toksG t f i acc = .ok l → (∀ k ∈ acc, TokW t k) → (∀ k ∈ l, TokW t k) ∧ l.length ≤ acc.length + (t.length - i)
  | 0, i, acc, l, _, h, ha => by cases h; exact ⟨ha, by omega⟩
  | f + 1, i, acc, l, hi, h, ha => by
    unfold toksG at h
    split at h
    · cases h; exact ⟨ha, by omega⟩
    · rename_i c hc
      split at h
      · cases h
      · rename_i j hk
        obtain ⟨h1, h2, -⟩ := tokAt_ok hc hk
        obtain ⟨a, b⟩ := toksG_ok t f j acc l h2 h ha
        exact ⟨a, by omega⟩
      · rename_i k j hk
        obtain ⟨h1, h2, h3⟩ := tokAt_ok hc hk
        obtain ⟨a, b⟩ := toksG_ok t f j (acc ++ [k]) l h2 h (fun q hq => by
          rcases List.mem_append.1 hq with h' | h'
          · exact ha q h'
          · cases List.mem_singleton.1 h'; exact h3 _ rfl)
        refine ⟨a, ?_⟩
        simp only [List.length_append, List.length_singleton] at b
        omega
theorem toksP_ok {t : List UInt8} {l : List Tok} (h : toksP t = .ok l) : (∀ k ∈ l, TokW t k) ∧ l.length ≤ t.length := by
  obtain ⟨a, b⟩ := toksG_ok t _ 0 [] l (Nat.zero_le _) h (fun k hk => by cases hk)
  exact ⟨a, by simpa using b⟩
theorem tk_of {l : List Tok} {e : Tok} (j : Nat) : (∃ k, l[j]? = some k ∧ tk (l ++ [e]) j = k ∧ j < l.length) ∨ (j = l.length ∧ tk (l ++ [e]) j = e) ∨ (l.length < j ∧ tk (l ++ [e]) j = ⟨0, [], 0, 0⟩) := by
  unfold tk
  rw [List.getD_eq_getElem?_getD]
  rcases Nat.lt_trichotomy j l.length with h | h | h
  · refine .inl ⟨l[j], List.getElem?_eq_getElem h, ?_, h⟩
    rw [List.getElem?_append_left h, List.getElem?_eq_getElem h]; rfl
  · subst h
    refine .inr (.inl ⟨rfl, ?_⟩)
    rw [List.getElem?_append_right (Nat.le_refl _)]; simp
  · refine .inr (.inr ⟨h, ?_⟩)
    rw [List.getElem?_eq_none (by simp; omega)]; rfl
theorem ends_of {t : List UInt8} {l : List Tok} (h : ∀ k ∈ l, TokW t k) : Ends (l ++ [endTok t]) := by
  refine ⟨fun j hj => ?_, fun j hj => ?_⟩
  · rcases tk_of (l := l) (e := endTok t) j with ⟨k, hk, hk2, _⟩ | ⟨_, hk⟩ | ⟨_, hk⟩
    · rw [hk2] at hj
      have := (h k (List.mem_of_getElem? hk)).kind
      omega
    · rw [hk]; rfl
    · rw [hk]
  · rcases tk_of (l := l) (e := endTok t) j with ⟨k, hk, hk2, hl⟩ | ⟨_, hk⟩ | ⟨_, hk⟩
    · simp; omega
    · rw [hk] at hj; exact absurd rfl hj
    · rw [hk] at hj; exact absurd rfl hj
/-- A text always has an answer. -/
theorem parseF_fin (t : List UInt8) : ∃ r, parseF 1000 t = some r := by
  unfold parseF
  split
  · exact ⟨_, rfl⟩
  · rename_i hl
    cases ht : toksP t with
    | error e => exact ⟨_, rfl⟩
    | ok l =>
      obtain ⟨hw, hlen⟩ := toksP_ok ht
      obtain ⟨v, hv⟩ := pLev_fin (ends_of hw) 1000 .expr 0 (-1) (by simp [rankL]; omega)
      simp only [hv]
      rcases v with ⟨a, e⟩ | ⟨x, i, late⟩
      · exact ⟨_, rfl⟩
      · exact ⟨_, rfl⟩
/-- Parse's answer. -/
def parseP (t : List UInt8) : Ex × Int × Int := (parseF 1000 t).getD (.zero, 0, 0)
theorem parseP_eq (t : List UInt8) : parseF 1000 t = some (parseP t) := by
  obtain ⟨r, hr⟩ := parseF_fin t
  unfold parseP
  rw [hr]; rfl
theorem parseP_of {f : Nat} (hf : f ≤ 1000) {t : List UInt8} {r : Ex × Int × Int} (h : parseF f t = some r) : parseP t = r := by
  have := parseF_mono hf h
  rw [parseP_eq] at this
  injection this
end Go.Proofs.YtcikenlflcofbaaGreatDoor

/-
  The rules of a device in plain words: parsed one by one, then checked. No program is named here.
-/
namespace Go.Proofs.YtcikenlflcofbaaGreatDoor

/-- A rule. -/
structure Rl where
  nm : List UInt8
  text : List UInt8

/-- The rules from number i on: the names that are known and the expressions so far, or the error of a rule. -/
def rulG : List Rl → List Sg → List Ex → Int → Except (Int × Int) (List Sg × List Ex)
  | [], env, l, _ => .ok (env, l)
  | r :: rs, env, l, i =>
    if nameB r.nm = false then .error (i, 7)
    else if (kindOf env r.nm).isSome then .error (i, 8)
    else if (parseP r.text).2.2 ≠ 0 then .error (i, (parseP r.text).2.2)
    else rulG rs (env ++ [⟨r.nm, 1⟩]) (l ++ [(parseP r.text).1]) (i + 1)
/-- The kinds of the expressions from number i on: nothing is wrong, or an error's number and kind. -/
def kndG (env : List Sg) : List Ex → Int → Option (Int × Int)
  | [], _ => none
  | x :: xs, i =>
    if (chkG env 16 x).2 ≠ 0 then some (i, (chkG env 16 x).2)
    else if (chkG env 16 x).1 ≠ 1 then some (i, 10)
    else kndG env xs (i + 1)
/-- What Rules returns. -/
def rulP (rs : List Rl) (ins : List Sg) : List Ex × Int × Int :=
  if 16 < rs.length ∨ 64 < ins.length then ([], 0, 3)
  else if goodP ins = false then ([], 0, 1)
  else match rulG rs ins [] 0 with
    | .error (i, e) => ([], i, e)
    | .ok (env, l) => match kndG env l 0 with
      | some (i, e) => ([], i, e)
      | none => (l, 0, 0)
theorem rulG_length : ∀ (rs : List Rl) (env : List Sg) (l : List Ex) (i : Int) (env' : List Sg) (l' : List Ex), rulG rs env l i = .ok (env', l') → env'.length = env.length + rs.length ∧ l'.length = l.length + rs.length
  | [], env, l, i, env', l', h => by cases h; exact ⟨rfl, rfl⟩
  | r :: rs, env, l, i, env', l', h => by
    unfold rulG at h
    split at h
    · cases h
    split at h
    · cases h
    split at h
    · cases h
    obtain ⟨a, b⟩ := rulG_length rs _ _ _ _ _ h
    simp only [List.length_append, List.length_singleton] at a b
    simp only [List.length_cons]
    omega
theorem kindOf_good : ∀ (l pre : List Sg), goodG pre l = true → (∀ s ∈ pre, s.kind = 1 ∨ s.kind = 2) → ∀ s ∈ pre ++ l, s.kind = 1 ∨ s.kind = 2
  | [], pre, _, hp, s, hs => hp s (by simpa using hs)
  | x :: l, pre, h, hp, s, hs => by
    unfold goodG sgB at h
    simp only [Bool.and_eq_true, Bool.or_eq_true, decide_eq_true_eq] at h
    exact kindOf_good l (pre ++ [x]) h.2.2 (fun y hy => by
      rcases List.mem_append.1 hy with q | q
      · exact hp y q
      · rw [List.mem_singleton.1 q]; exact h.1.2) s (by simpa using hs)
theorem goodQ_snoc : ∀ (l pre : List Sg) (s : Sg), goodG pre (l ++ [s]) = (goodG pre l && (sgB s && (kindOf (pre ++ l) s.nm).isNone))
  | [], pre, s => by simp [goodG]
  | x :: l, pre, s => by
    have ih := goodQ_snoc l (pre ++ [x]) s
    show (sgB x && ((kindOf pre x.nm).isNone && goodG (pre ++ [x]) (l ++ [s]))) = ((sgB x && ((kindOf pre x.nm).isNone && goodG (pre ++ [x]) l)) && (sgB s && (kindOf (pre ++ x :: l) s.nm).isNone))
    rw [ih]
    simp [Bool.and_assoc]
theorem good_snoc {env : List Sg} {nm : List UInt8} (h : goodP env = true) (hn : nameB nm = true) (hk : kindOf env nm = none) : goodP (env ++ [⟨nm, 1⟩]) = true := by
  unfold goodP at *
  rw [goodQ_snoc, h]
  simp [sgB, hn, hk]
end Go.Proofs.YtcikenlflcofbaaGreatDoor

/-
  The text of an expression in plain words, and that its tokens are known. No program is named here.
-/
namespace Go.Proofs.YtcikenlflcofbaaGreatDoor

def kid (ks : List Ex) (k : Nat) : Ex := ks.getD k .zero
def commaL : List (List UInt8) → List UInt8
  | [] => []
  | [a] => a
  | a :: b :: r => a ++ [44, 32] ++ commaL (b :: r)
/-- The text of an expression of at most d levels. -/
def fmtG : Nat → Ex → List UInt8
  | 0, _ => []
  | d + 1, .mk op n nm ks =>
    if op = 1 then (if n = 1 then [116, 114, 117, 101] else [102, 97, 108, 115, 101])
    else if op = 2 then Lib.itoa n
    else if op = 3 then nm
    else if op = 4 then [40, 110, 111, 116, 32] ++ fmtG d (kid ks 0) ++ [41]
    else if infixB op then [40] ++ fmtG d (kid ks 0) ++ ([32] ++ wordP op ++ [32]) ++ fmtG d (kid ks 1) ++ [41]
    else wordP op ++ [40] ++ commaL (ks.map (fmtG d)) ++ (if timedB op then [44, 32] ++ Lib.itoa n else []) ++ [41]
/-- Format's answer. -/
def fmtP (x : Ex) : List UInt8 := if validP x then fmtG 16 x else []
/-- Every node fits its operation; at most d levels. -/
def okG : Nat → Ex → Prop
  | 0, _ => False
  | d + 1, .mk op n nm ks => nodeB op n nm ks.length = true ∧ ∀ k ∈ ks, okG d k
theorem vL_mem {f : Nat → Ex → Option Nat} : ∀ {ks : List Ex} {left l : Nat}, vL f left ks = some l → ∀ k ∈ ks, ∃ a b, f a k = some b
  | [], _, _, _, k, hk => by cases hk
  | x :: ks, left, l, h, k, hk => by
    unfold vL at h
    split at h
    · cases h
    · rename_i m hm
      rcases List.mem_cons.1 hk with rfl | hk
      · exact ⟨_, _, hm⟩
      · exact vL_mem h k hk
theorem vG_ok : ∀ {d left l : Nat} {x : Ex}, vG d left x = some l → okG d x
  | 0, _, _, _, h => by cases h
  | d + 1, left, l, .mk op n nm ks, h => by
    unfold vG at h
    split at h
    · cases h
    · rename_i hn
      refine ⟨?_, fun k hk => ?_⟩
      · cases hb : nodeB op n nm ks.length
        · exact absurd (.inr hb) hn
        · rfl
      · obtain ⟨a, b, hab⟩ := vL_mem h k hk
        exact vG_ok hab
theorem valid_ok {x : Ex} (h : validP x = true) : okG 16 x := by
  unfold validP at h
  cases hv : vG 16 60 x with
  | none => rw [hv] at h; cases h
  | some l => exact vG_ok hv

theorem itoa_decP {n : Int} (h : 0 ≤ n) : Lib.itoa n = Lib.decDigits n.toNat := by unfold Lib.itoa; rw [if_neg (by omega)]
theorem decV_snoc (l : List UInt8) (c : UInt8) : decV (l ++ [c]) = 10 * decV l + (c.toNat - 48) := by simp [decV]
theorem digit_ofNat {u : Nat} (h : u < 10) : digitB (UInt8.ofNat (48 + u)) = true ∧ (UInt8.ofNat (48 + u)).toNat = 48 + u := by
  have e : (UInt8.ofNat (48 + u)).toNat = 48 + u := by rw [UInt8.toNat_ofNat']; omega
  refine ⟨?_, e⟩
  simp only [digitB, Bool.and_eq_true, decide_eq_true_eq, UInt8.le_iff_toNat_le, e]
  constructor
  · show 48 ≤ 48 + u; omega
  · show 48 + u ≤ 57; omega
theorem dec_allP (u : Nat) : (Lib.decDigits u).all digitB = true := by
  induction u using Nat.strongRecOn with
  | _ u ih =>
  by_cases h : u < 10
  · rw [Lib.decDigits_one h]
    simp only [List.all_cons, List.all_nil, Bool.and_true, (digit_ofNat h).1]
  · rw [Lib.decDigits, dif_neg h, List.all_append, ih (u / 10) (by omega)]
    simp only [List.all_cons, List.all_nil, Bool.and_true, (digit_ofNat (Nat.mod_lt u (by decide : 10 > 0))).1]
theorem dec_valP (u : Nat) : decV (Lib.decDigits u) = u := by
  induction u using Nat.strongRecOn with
  | _ u ih =>
  by_cases h : u < 10
  · rw [Lib.decDigits_one h]
    have := (digit_ofNat h).2
    simp only [decV, List.foldl_cons, List.foldl_nil, this]
    omega
  · rw [Lib.decDigits, dif_neg h, decV_snoc, ih (u / 10) (by omega), (digit_ofNat (Nat.mod_lt u (by decide : 10 > 0))).2]
    omega
theorem dec_head (u : Nat) : ∃ c r, Lib.decDigits u = c :: r ∧ digitB c = true ∧ r.all digitB = true ∧ (c = 48 → r = []) := by
  induction u using Nat.strongRecOn with
  | _ u ih =>
  by_cases h : u < 10
  · exact ⟨_, [], Lib.decDigits_one h, (digit_ofNat h).1, rfl, fun _ => rfl⟩
  · obtain ⟨c, r, e, h1, h2, h3⟩ := ih (u / 10) (by omega)
    refine ⟨c, r ++ [UInt8.ofNat (48 + u % 10)], ?_, h1, ?_, fun q => ?_⟩
    · rw [Lib.decDigits, dif_neg h, e]; rfl
    · rw [List.all_append, h2]; simp only [List.all_cons, List.all_nil, Bool.and_true, (digit_ofNat (Nat.mod_lt u (by decide : 10 > 0))).1]
    · exfalso
      have hr := h3 q
      subst hr
      subst q
      have hv := dec_valP (u / 10)
      rw [e] at hv
      have : decV [48] = 0 := by decide
      omega

/-- A token without its place. -/
def strip (k : Tok) : Int × List UInt8 × Int := (k.kind, k.text, k.n)
def tkW (s : List UInt8) : Int × List UInt8 × Int := (1, s, 0)
def tkS (c : UInt8) : Int × List UInt8 × Int := (3, [c], 0)
def tkN (n : Int) : Int × List UInt8 × Int := (2, Lib.itoa n, n)
def tkOp (op : Int) : Int × List UInt8 × Int := (if op ≤ 7 then 1 else 3, wordP op, 0)
def commaT : List (List (Int × List UInt8 × Int)) → List (Int × List UInt8 × Int)
  | [] => []
  | [a] => a
  | a :: b :: r => a ++ [tkS 44] ++ commaT (b :: r)
/-- The tokens of an expression's text. -/
def ftok : Nat → Ex → List (Int × List UInt8 × Int)
  | 0, _ => []
  | d + 1, .mk op n nm ks =>
    if op = 1 then [tkW (if n = 1 then [116, 114, 117, 101] else [102, 97, 108, 115, 101])]
    else if op = 2 then [tkN n]
    else if op = 3 then [tkW nm]
    else if op = 4 then [tkS 40, tkW [110, 111, 116]] ++ ftok d (kid ks 0) ++ [tkS 41]
    else if infixB op then [tkS 40] ++ ftok d (kid ks 0) ++ [tkOp op] ++ ftok d (kid ks 1) ++ [tkS 41]
    else [tkW (wordP op), tkS 40] ++ commaT (ks.map (ftok d)) ++ (if timedB op then [tkS 44, tkN n] else []) ++ [tkS 41]

theorem toksG_fuel (t : List UInt8) : ∀ f f' i acc, t.length - i < f → t.length - i < f' → toksG t f i acc = toksG t f' i acc
  | 0, _, _, _, h, _ => absurd h (by omega)
  | f + 1, 0, _, _, _, h => absurd h (by omega)
  | f + 1, f' + 1, i, acc, h, h' => by
    unfold toksG
    cases hc : t[i]? with
    | none => rfl
    | some c =>
      obtain ⟨hi, -⟩ := List.getElem?_eq_some_iff.1 hc
      simp only
      cases hk : tokAt t i c with
      | error e => rfl
      | ok v =>
        obtain ⟨o, j⟩ := v
        obtain ⟨h1, h2, -⟩ := tokAt_ok hc hk
        cases o with
        | none => exact toksG_fuel t f f' j acc (by omega) (by omega)
        | some k => exact toksG_fuel t f f' j _ (by omega) (by omega)
/-- From the remaining text s the tokens ks are read, and rest remains. -/
def Eats (t s rest : List UInt8) (ks : List (Int × List UInt8 × Int)) : Prop :=
  ∀ i acc f, t.drop i = s → i ≤ t.length → t.length - i < f → ∃ toks j f', t.drop j = rest ∧ j ≤ t.length ∧ toks.map strip = ks ∧ t.length - j < f' ∧ toksG t f i acc = toksG t f' j (acc ++ toks)
theorem Eats.refl (t s : List UInt8) : Eats t s s [] := fun i acc f h hi hf => ⟨[], i, f, h, hi, rfl, hf, by rw [List.append_nil]⟩
theorem Eats.trans {t a b c : List UInt8} {k1 k2 : List (Int × List UInt8 × Int)} (h1 : Eats t a b k1) (h2 : Eats t b c k2) : Eats t a c (k1 ++ k2) := by
  intro i acc f h hi hf
  obtain ⟨t1, j, f1, a1, a2, a3, a4, a5⟩ := h1 i acc f h hi hf
  obtain ⟨t2, k, f2, b1, b2, b3, b4, b5⟩ := h2 j (acc ++ t1) f1 a1 a2 a4
  exact ⟨t1 ++ t2, k, f2, b1, b2, by rw [List.map_append, a3, b3], b4, by rw [a5, b5, List.append_assoc]⟩
theorem drop_get {t r : List UInt8} {i : Nat} {c : UInt8} (h : t.drop i = c :: r) : t[i]? = some c ∧ i < t.length ∧ t.drop (i + 1) = r := by
  have hi : i < t.length := Nat.lt_of_not_le fun q => by rw [List.drop_eq_nil_of_le q] at h; cases h
  rw [List.drop_eq_getElem_cons hi] at h
  injection h with h1 h2
  exact ⟨by rw [List.getElem?_eq_getElem hi, h1], hi, h2⟩
theorem Eats.one {t s rest r : List UInt8} {c : UInt8} (hs : s = c :: r) {ks : List (Int × List UInt8 × Int)} (h : ∀ i, t.drop i = s → ∃ o j, tokAt t i c = .ok (o, j) ∧ t.drop j = rest ∧ o.toList.map strip = ks) : Eats t s rest ks := by
  intro i acc f hd hi hf
  subst hs
  obtain ⟨hc, hil, -⟩ := drop_get hd
  obtain ⟨o, j, h1, h2, h3⟩ := h i hd
  obtain ⟨h4, h5, -⟩ := tokAt_ok hc h1
  cases f with
  | zero => exact absurd hf (by omega)
  | succ f =>
    refine ⟨o.toList, j, f, h2, h5, h3, by omega, ?_⟩
    rw [toksG, hc]
    simp only [h1]
    cases o with
    | none => simp
    | some k => simp
theorem Eats.space {t r : List UInt8} : Eats t (32 :: r) r [] := Eats.one rfl fun i h => ⟨none, i + 1, by simp [tokAt], (drop_get h).2.2, rfl⟩
theorem Eats.sym {t r : List UInt8} (c : UInt8) (h1 : (c == 32) = false) (h2 : letterB c = false) (h3 : digitB c = false) (h4 : symB c = true) : Eats t (c :: r) r [tkS c] :=
  Eats.one rfl fun i h => ⟨some ⟨3, [c], i, 0⟩, i + 1, by simp [tokAt, h1, h2, h3, h4], (drop_get h).2.2, rfl⟩
def delim (p : UInt8 → Bool) (l : List UInt8) : Prop := ∀ c r, l = c :: r → p c = false
theorem takeWhile_delim {p : UInt8 → Bool} {a l : List UInt8} (ha : a.all p = true) (hl : delim p l) : (a ++ l).takeWhile p = a := by
  induction a with
  | nil =>
    cases l with
    | nil => rfl
    | cons c r => rw [List.nil_append, List.takeWhile_cons, hl c r rfl]; rfl
  | cons x a ih =>
    simp only [List.all_cons, Bool.and_eq_true] at ha
    rw [List.cons_append, List.takeWhile_cons, if_pos ha.1, ih ha.2]
theorem letter_ne {c : UInt8} (h : letterB c = true) : (c == 32) = false := by
  cases hq : (c == 32)
  · rfl
  · rw [eq_of_beq hq] at h; exact absurd h (by decide)
theorem digit_ne {c : UInt8} (h : digitB c = true) : (c == 32) = false ∧ letterB c = false := by
  refine ⟨?_, ?_⟩
  · cases hq : (c == 32)
    · rfl
    · rw [eq_of_beq hq] at h; exact absurd h (by decide)
  · simp only [digitB, Bool.and_eq_true, decide_eq_true_eq, UInt8.le_iff_toNat_le] at h
    have h1 : 48 ≤ c.toNat := h.1
    have h2 : c.toNat ≤ 57 := h.2
    cases hl : letterB c
    · rfl
    · simp only [letterB, Bool.or_eq_true, Bool.and_eq_true, decide_eq_true_eq, UInt8.le_iff_toNat_le] at hl
      have : (97 ≤ c.toNat ∧ c.toNat ≤ 122) ∨ (65 ≤ c.toNat ∧ c.toNat ≤ 90) := hl
      omega
theorem Eats.word {t rest r : List UInt8} {c : UInt8} (hc : letterB c = true) (hr : r.all wordB = true) (hl : r.length < 12) (hd : delim wordB rest) : Eats t (c :: r ++ rest) rest [tkW (c :: r)] :=
  Eats.one (r := r ++ rest) rfl fun i h => by
    obtain ⟨hg, hi, hn⟩ := drop_get h
    have hw : (t.drop (i + 1)).takeWhile wordB = r := by rw [hn]; exact takeWhile_delim hr hd
    have hrun : runB wordB t (i + 1) = i + 1 + r.length := by unfold runB; rw [hw]
    refine ⟨some ⟨1, c :: r, i, 0⟩, i + 1 + r.length, ?_, ?_, rfl⟩
    · unfold tokAt
      rw [letter_ne hc, hc, cut_run wordB t i c hg, hw, hrun]
      simp only [Bool.false_eq_true, if_false, if_true]
      rw [if_neg (by omega)]
    · rw [← List.drop_drop, hn, List.drop_left]
theorem Eats.num {t rest : List UInt8} {n : Int} (h0 : 0 ≤ n) (h1 : n ≤ 32767) (hd : delim digitB rest) : Eats t (Lib.itoa n ++ rest) rest [tkN n] := by
  obtain ⟨c, r, e, hc, hr, hz⟩ := dec_head n.toNat
  have hv := dec_valP n.toNat
  have ei : Lib.itoa n = c :: r := by rw [itoa_decP h0, e]
  rw [e] at hv
  unfold tkN
  rw [ei]
  refine Eats.one (r := r ++ rest) rfl fun i h => ?_
  obtain ⟨hg, hi, hn⟩ := drop_get h
  have hw : (t.drop (i + 1)).takeWhile digitB = r := by rw [hn]; exact takeWhile_delim hr hd
  have hrun : runB digitB t (i + 1) = i + 1 + r.length := by unfold runB; rw [hw]
  obtain ⟨n1, n2⟩ := digit_ne hc
  refine ⟨some ⟨2, c :: r, i, decV (c :: r)⟩, i + 1 + r.length, ?_, ?_, ?_⟩
  · unfold tokAt
    rw [n1, n2, hc, cut_run digitB t i c hg, hw, hrun]
    simp only [Bool.false_eq_true, if_false, if_true]
    rw [if_neg]
    rintro (q | ⟨q1, q2⟩)
    · omega
    · rw [hz q2] at q1; simp at q1
  · rw [← List.drop_drop, hn, List.drop_left]
  · show [strip ⟨2, c :: r, i, decV (c :: r)⟩] = _
    unfold strip
    rw [hv]
    simp only [List.cons.injEq, Prod.mk.injEq, and_true, true_and]
    omega
theorem Eats.str {t a rest : List UInt8} {k : List (Int × List UInt8 × Int)} {s : List UInt8} (h : Eats t s rest k) (e : s = a) : Eats t a rest k := e ▸ h
theorem delim_cons {p : UInt8 → Bool} {c : UInt8} {r : List UInt8} (h : p c = false) : delim p (c :: r) := fun _ _ q => by cases q; exact h
theorem delim_digit {l : List UInt8} (h : delim wordB l) : delim digitB l := fun c r q => by
  have := h c r q
  unfold wordB at this
  simp only [Bool.or_eq_false_iff] at this
  exact this.1.2
theorem Eats.comma {t : List UInt8} {F : Ex → List UInt8} {G : Ex → List (Int × List UInt8 × Int)} : ∀ (ks : List Ex) (rest : List UInt8), delim wordB rest → (∀ k ∈ ks, ∀ rest, delim wordB rest → Eats t (F k ++ rest) rest (G k)) → Eats t (commaL (ks.map F) ++ rest) rest (commaT (ks.map G))
  | [], rest, _, _ => Eats.refl _ _
  | [a], rest, hd, h => h a (by simp) rest hd
  | a :: b :: r, rest, hd, h => by
    have e1 := h a (by simp) ([44, 32] ++ commaL ((b :: r).map F) ++ rest) (delim_cons (by decide))
    have e2 : Eats t ([44, 32] ++ commaL ((b :: r).map F) ++ rest) (commaL ((b :: r).map F) ++ rest) [tkS 44] := (Eats.sym 44 (by decide) (by decide) (by decide) (by decide)).trans Eats.space
    have e3 := Eats.comma (t := t) (b :: r) rest hd (fun k hk => h k (List.mem_cons_of_mem _ hk))
    have := (e1.trans e2).trans e3
    simpa [commaL, commaT, List.append_assoc] using this
/-- The text of an expression has these tokens. -/
theorem node_parts {op n : Int} {nm : List UInt8} {k : Nat} (h : nodeB op n nm k = true) : (k : Int) = arityP op ∧ (op = 3 → n = 0 ∧ nameB nm = true) ∧ (op ≠ 3 → nm = [] ∧ 0 ≤ n ∧ n ≤ mostP op) := by
  unfold nodeB at h
  simp only [Bool.and_eq_true, decide_eq_true_eq] at h
  refine ⟨h.1, fun q => ?_, fun q => ?_⟩
  · have h2 := h.2
    rw [if_pos q] at h2
    simp only [Bool.and_eq_true, decide_eq_true_eq] at h2
    exact h2
  · have h2 := h.2
    rw [if_neg q] at h2
    simp only [Bool.and_eq_true, decide_eq_true_eq, List.isEmpty_iff] at h2
    exact ⟨h2.1, h2.2.1, h2.2.2⟩
theorem arity_range {op : Int} {k : Nat} (h : (k : Int) = arityP op) : 1 ≤ op ∧ op ≤ 22 := by
  unfold arityP at h
  split at h
  · omega
  split at h
  · omega
  split at h
  · omega
  split at h
  · omega
  · omega
theorem most_le (op : Int) : mostP op ≤ 32767 := by
  unfold mostP
  repeat' split
  all_goals omega
theorem Eats.name {t rest nm : List UInt8} (h : nameB nm = true) (hd : delim wordB rest) : Eats t (nm ++ rest) rest [tkW nm] := by
  unfold nameB at h
  simp only [Bool.and_eq_true] at h
  have h1 := h.1
  unfold plainB at h1
  cases nm with
  | nil => cases h1
  | cons c r =>
    simp only [Bool.and_eq_true, decide_eq_true_eq] at h1
    exact Eats.word h1.1.2 h1.2 h1.1.1 hd
theorem Eats.opw {t rest : List UInt8} (op : Int) (h1 : 4 ≤ op) (h2 : op ≤ 22) (hd : delim wordB rest) : Eats t (wordP op ++ rest) rest [tkOp op] ∨ ¬ infixB op = true := by
  have hop : op = 4 ∨ op = 5 ∨ op = 6 ∨ op = 7 ∨ op = 8 ∨ op = 9 ∨ op = 10 ∨ op = 11 ∨ op = 12 ∨ 13 ≤ op := by omega
  rcases hop with rfl | rfl | rfl | rfl | rfl | rfl | rfl | rfl | rfl | h
  · exact .inr (by decide)
  · exact .inl (Eats.word (t := t) (c := 97) (r := [110, 100]) (by decide) (by decide) (by decide) hd)
  · exact .inl (Eats.word (t := t) (c := 111) (r := [114]) (by decide) (by decide) (by decide) hd)
  · exact .inl (Eats.word (t := t) (c := 120) (r := [111, 114]) (by decide) (by decide) (by decide) hd)
  · exact .inl (Eats.sym (t := t) 60 (by decide) (by decide) (by decide) (by decide))
  · exact .inl (Eats.sym (t := t) 62 (by decide) (by decide) (by decide) (by decide))
  · exact .inl (Eats.sym (t := t) 61 (by decide) (by decide) (by decide) (by decide))
  · exact .inl (Eats.sym (t := t) 43 (by decide) (by decide) (by decide) (by decide))
  · exact .inl (Eats.sym (t := t) 45 (by decide) (by decide) (by decide) (by decide))
  · refine .inr fun q => ?_
    unfold infixB at q
    simp only [decide_eq_true_eq] at q
    omega
theorem call_word {op : Int} (h1 : 13 ≤ op) (h2 : op ≤ 22) : ∃ c r, wordP op = c :: r ∧ letterB c = true ∧ r.all wordB = true ∧ r.length < 12 := by
  have hop : op = 13 ∨ op = 14 ∨ op = 15 ∨ op = 16 ∨ op = 17 ∨ op = 18 ∨ op = 19 ∨ op = 20 ∨ op = 21 ∨ op = 22 := by omega
  rcases hop with rfl | rfl | rfl | rfl | rfl | rfl | rfl | rfl | rfl | rfl
  all_goals exact ⟨_, _, rfl, by decide, by decide, by decide⟩
theorem kid_mem {ks : List Ex} {k : Nat} (h : k < ks.length) : kid ks k ∈ ks := by
  unfold kid
  rw [List.getD_eq_getElem?_getD, List.getElem?_eq_getElem h]
  exact List.getElem_mem h
theorem eats_fmt (t : List UInt8) : ∀ d x rest, okG d x → delim wordB rest → Eats t (fmtG d x ++ rest) rest (ftok d x)
  | 0, _, _, h, _ => h.elim
  | d + 1, .mk op n nm ks, rest, h, hd => by
    obtain ⟨hn, hk⟩ := h
    obtain ⟨h1, h3, h4⟩ := node_parts hn
    obtain ⟨r1, r2⟩ := arity_range h1
    have ml := most_le op
    have ih := fun k hk' rest hr => eats_fmt t d k rest (hk k hk') hr
    unfold fmtG ftok
    by_cases e1 : op = 1
    · rw [if_pos e1, if_pos e1]
      by_cases e : n = 1
      · rw [if_pos e]; exact Eats.word (c := 116) (r := [114, 117, 101]) (by decide) (by decide) (by decide) hd
      · rw [if_neg e]; exact Eats.word (c := 102) (r := [97, 108, 115, 101]) (by decide) (by decide) (by decide) hd
    rw [if_neg e1, if_neg e1]
    by_cases e2 : op = 2
    · rw [if_pos e2, if_pos e2]
      obtain ⟨-, a, b⟩ := h4 (by omega)
      exact Eats.num a (by omega) (delim_digit hd)
    rw [if_neg e2, if_neg e2]
    by_cases e3 : op = 3
    · rw [if_pos e3, if_pos e3]
      exact Eats.name (h3 e3).2 hd
    rw [if_neg e3, if_neg e3]
    by_cases e4 : op = 4
    · rw [if_pos e4, if_pos e4]
      have hl : ks.length = 1 := by rw [e4] at h1; have : arityP 4 = 1 := by decide
                                    omega
      have a1 : Eats t (40 :: ([110, 111, 116] ++ (32 :: (fmtG d (kid ks 0) ++ (41 :: rest))))) _ [tkS 40] := Eats.sym 40 (by decide) (by decide) (by decide) (by decide)
      have a2 := Eats.word (t := t) (rest := 32 :: (fmtG d (kid ks 0) ++ (41 :: rest))) (c := 110) (r := [111, 116]) (by decide) (by decide) (by decide) (delim_cons (by decide))
      have a3 : Eats t (32 :: (fmtG d (kid ks 0) ++ (41 :: rest))) _ [] := Eats.space
      have a4 := ih (kid ks 0) (kid_mem (by omega)) (41 :: rest) (delim_cons (by decide))
      have a5 : Eats t (41 :: rest) rest [tkS 41] := Eats.sym 41 (by decide) (by decide) (by decide) (by decide)
      have := ((((a1.trans a2).trans a3).trans a4).trans a5)
      simpa [List.append_assoc] using this
    rw [if_neg e4, if_neg e4]
    by_cases e5 : infixB op = true
    · rw [if_pos e5, if_pos e5]
      have e5' : 5 ≤ op ∧ op ≤ 12 := by unfold infixB at e5; simpa using e5
      have hl : ks.length = 2 := by
        have : arityP op = 2 := by
          unfold arityP
          rw [if_neg (by omega), if_neg (by omega), if_neg (by omega), if_pos (by omega)]
        omega
      have a1 : Eats t (40 :: (fmtG d (kid ks 0) ++ (32 :: (wordP op ++ (32 :: (fmtG d (kid ks 1) ++ (41 :: rest))))))) _ [tkS 40] := Eats.sym 40 (by decide) (by decide) (by decide) (by decide)
      have a2 := ih (kid ks 0) (kid_mem (by omega)) (32 :: (wordP op ++ (32 :: (fmtG d (kid ks 1) ++ (41 :: rest))))) (delim_cons (by decide))
      have a3 : Eats t (32 :: (wordP op ++ (32 :: (fmtG d (kid ks 1) ++ (41 :: rest))))) _ [] := Eats.space
      have a4 : Eats t (wordP op ++ (32 :: (fmtG d (kid ks 1) ++ (41 :: rest)))) _ [tkOp op] := (Eats.opw op (by omega) (by omega) (delim_cons (by decide))).resolve_right (fun q => q e5)
      have a5 : Eats t (32 :: (fmtG d (kid ks 1) ++ (41 :: rest))) _ [] := Eats.space
      have a6 := ih (kid ks 1) (kid_mem (by omega)) (41 :: rest) (delim_cons (by decide))
      have a7 : Eats t (41 :: rest) rest [tkS 41] := Eats.sym 41 (by decide) (by decide) (by decide) (by decide)
      have := ((((((a1.trans a2).trans a3).trans a4).trans a5).trans a6).trans a7)
      simpa [List.append_assoc] using this
    rw [if_neg e5, if_neg e5]
    have e6 : 13 ≤ op := by
      unfold infixB at e5
      simp only [decide_eq_true_eq] at e5
      omega
    obtain ⟨c, r, hw, w1, w2, w3⟩ := call_word e6 r2
    obtain ⟨-, n0, n1⟩ := h4 e3
    have a5 : Eats t (41 :: rest) rest [tkS 41] := Eats.sym 41 (by decide) (by decide) (by decide) (by decide)
    have a4 : Eats t ((if timedB op then [44, 32] ++ Lib.itoa n else []) ++ (41 :: rest)) (41 :: rest) (if timedB op then [tkS 44, tkN n] else []) := by
      cases timedB op
      · exact Eats.refl _ _
      · have b1 : Eats t (44 :: 32 :: (Lib.itoa n ++ (41 :: rest))) _ [tkS 44] := Eats.sym 44 (by decide) (by decide) (by decide) (by decide)
        have b2 : Eats t (32 :: (Lib.itoa n ++ (41 :: rest))) _ [] := Eats.space
        have b3 := Eats.num (t := t) (rest := 41 :: rest) n0 (by omega) (delim_cons (by decide))
        have := (b1.trans b2).trans b3
        simpa [List.append_assoc] using this
    have hdl : delim wordB ((if timedB op then [44, 32] ++ Lib.itoa n else []) ++ (41 :: rest)) := by
      cases timedB op
      · exact delim_cons (by decide)
      · exact delim_cons (by decide)
    have a3 := Eats.comma (t := t) (F := fmtG d) (G := ftok d) ks _ hdl ih
    have a2 : Eats t (40 :: (commaL (ks.map (fmtG d)) ++ ((if timedB op then [44, 32] ++ Lib.itoa n else []) ++ (41 :: rest)))) _ [tkS 40] := Eats.sym 40 (by decide) (by decide) (by decide) (by decide)
    have a1 := Eats.word (t := t) (c := c) (r := r) w1 w2 w3 (delim_cons (p := wordB) (c := 40) (r := commaL (ks.map (fmtG d)) ++ ((if timedB op then [44, 32] ++ Lib.itoa n else []) ++ (41 :: rest))) (by decide))
    rw [← hw] at a1
    have := (((a1.trans a2).trans a3).trans a4).trans a5
    simpa [List.append_assoc] using this
/-- The tokens of a whole text. -/
theorem toks_fmt {x : Ex} (h : okG 16 x) : ∃ l, toksP (fmtG 16 x) = .ok l ∧ l.map strip = ftok 16 x := by
  have := eats_fmt (fmtG 16 x) 16 x [] h (fun _ _ q => by cases q)
  rw [List.append_nil] at this
  obtain ⟨toks, j, f', h1, h2, h3, h4, h5⟩ := this 0 [] ((fmtG 16 x).length + 1) rfl (Nat.zero_le _) (by omega)
  refine ⟨toks, ?_, h3⟩
  unfold toksP
  rw [h5]
  have hj : j = (fmtG 16 x).length := by
    have := congrArg List.length h1
    rw [List.length_drop] at this
    simp only [List.length_nil] at this
    omega
  cases f' with
  | zero => exact absurd h4 (by omega)
  | succ f' =>
    rw [toksG, List.getElem?_eq_none (by omega)]
    rfl
end Go.Proofs.YtcikenlflcofbaaGreatDoor

/-
  The code of rules in plain words, and that the code of the first rules does not depend on the last one's text. No program is named here.
-/
namespace Go.Proofs.YtcikenlflcofbaaGreatDoor

/-- An instruction; a cell. -/
structure Ins where
  op : Int
  a : Int
structure Cl where
  op : Int
  n : Int
/-- What the emitter holds. -/
structure Em where
  code : List Ins
  cells : List Cl
  height : Int
  most : Int
def opnP (op : Int) : Int :=
  if op = 1 ∨ op = 2 ∨ op = 30 ∨ op = 31 then 0
  else if op = 4 ∨ op = 15 ∨ op = 17 ∨ op = 18 ∨ op = 19 ∨ op = 20 ∨ op = 32 then 1
  else if op = 16 then 3
  else if 5 ≤ op ∧ op ≤ 22 then 2 else -1
def keptB (op : Int) : Bool := decide (17 ≤ op ∧ op ≤ 22)
def addE (m : Em) (op a : Int) : Em :=
  ⟨m.code ++ [⟨op, a⟩], m.cells, m.height - opnP op + (if op = 32 then 0 else 1), max m.most (m.height - opnP op + (if op = 32 then 0 else 1))⟩
/-- The last place of a name in a list. -/
def placeP (l : List (List UInt8)) (s : List UInt8) : Option Int := (l.zipIdx.reverse.find? fun x => decide (x.1 = s)).map fun x => (x.2 : Int)
def nodeE (ins rls : List (List UInt8)) (op n : Int) (nm : List UInt8) (m : Em) : Em :=
  if op = 3 then match placeP ins nm with
    | some i => addE m 30 i
    | none => addE m 31 ((placeP rls nm).getD 0)
  else if op = 1 ∨ op = 2 then addE m op n
  else if keptB op then ⟨(addE m op m.cells.length).code, m.cells ++ [⟨op, n⟩], (addE m op m.cells.length).height, (addE m op m.cells.length).most⟩
  else addE m op 0
def exprE (ins rls : List (List UInt8)) : Nat → Ex → Em → Em
  | 0, _, m => m
  | d + 1, .mk op n nm ks, m => nodeE ins rls op n nm (ks.foldl (fun m k => exprE ins rls d k m) m)
/-- The code of rules, from number i on. -/
def rulesE (ins rls : List (List UInt8)) : List Ex → Int → Em → Em
  | [], _, m => m
  | x :: xs, i, m => rulesE ins rls xs (i + 1) (addE (exprE ins rls 16 x m) 32 i)
def emP (rs : List Rl) (ins : List Sg) (l : List Ex) : Em := rulesE (ins.map (·.nm)) (rs.map (·.nm)) l 0 ⟨[], [], 0, 0⟩
/-- What Compile returns. -/
def compP (rs : List Rl) (ins : List Sg) : (List Ins × List Cl) × Int × Int :=
  if (rulP rs ins).2.2 ≠ 0 then (([], []), (rulP rs ins).2.1, (rulP rs ins).2.2)
  else if 600 < (emP rs ins (rulP rs ins).1).code.length ∨ 64 < (emP rs ins (rulP rs ins).1).cells.length ∨ 24 < (emP rs ins (rulP rs ins).1).most then (([], []), 0, 4)
  else (((emP rs ins (rulP rs ins).1).code, (emP rs ins (rulP rs ins).1).cells), 0, 0)

theorem placeP_snoc (l : List (List UInt8)) (x s : List UInt8) : placeP (l ++ [x]) s = if x = s then some (l.length : Int) else placeP l s := by
  unfold placeP
  rw [List.zipIdx_append, List.reverse_append]
  simp only [List.zipIdx_cons, List.zipIdx_nil, List.reverse_cons, List.reverse_nil, List.nil_append, List.find?_cons, List.singleton_append, Nat.zero_add]
  by_cases h : x = s
  · simp [h]
  · simp [h]

/-! The code grows at its end, and what is added does not hold a store. -/
def Adds (m m' : Em) : Prop := ∃ c, m'.code = m.code ++ c ∧ ∀ i ∈ c, i.op ≠ 32
theorem Adds.refl (m : Em) : Adds m m := ⟨[], by simp, fun _ h => by cases h⟩
theorem Adds.trans {a b c : Em} (h : Adds a b) (k : Adds b c) : Adds a c := by
  obtain ⟨x, h1, h2⟩ := h
  obtain ⟨y, k1, k2⟩ := k
  refine ⟨x ++ y, by rw [k1, h1, List.append_assoc], fun i hi => ?_⟩
  rcases List.mem_append.1 hi with q | q
  · exact h2 i q
  · exact k2 i q
theorem Adds.add (m : Em) {op : Int} (a : Int) (h : op ≠ 32) : Adds m (addE m op a) := ⟨[⟨op, a⟩], rfl, fun i hi => by rw [List.mem_singleton.1 hi]; exact h⟩
theorem Adds.node (ins rls : List (List UInt8)) {op : Int} (n : Int) (nm : List UInt8) (m : Em) (h : op ≠ 32) : Adds m (nodeE ins rls op n nm m) := by
  unfold nodeE
  split
  · split
    · exact Adds.add m _ (by decide)
    · exact Adds.add m _ (by decide)
  split
  · exact Adds.add m _ h
  split
  · exact Adds.add m _ h
  · exact Adds.add m _ h
theorem node_op {op n : Int} {nm : List UInt8} {k : Nat} (h : nodeB op n nm k = true) : 1 ≤ op ∧ op ≤ 22 := by
  unfold nodeB at h
  rw [Bool.and_eq_true, decide_eq_true_eq] at h
  have h1 := h.1
  unfold arityP at h1
  split at h1
  · omega
  split at h1
  · omega
  split at h1
  · omega
  split at h1
  · omega
  · omega
theorem Adds.fold {f : Em → Ex → Em} : ∀ (ks : List Ex) (m : Em), (∀ k ∈ ks, ∀ m, Adds m (f m k)) → Adds m (ks.foldl f m)
  | [], m, _ => Adds.refl m
  | k :: ks, m, h => (h k (List.mem_cons_self ..) m).trans (Adds.fold ks _ fun y hy => h y (List.mem_cons_of_mem _ hy))
theorem Adds.expr (ins rls : List (List UInt8)) : ∀ (d : Nat) (x : Ex) (m : Em), okG d x → Adds m (exprE ins rls d x m)
  | 0, _, m, _ => Adds.refl m
  | d + 1, .mk op n nm ks, m, h => by
    have h1 := Adds.fold (f := fun m k => exprE ins rls d k m) ks m (fun k hk m => Adds.expr ins rls d k m (h.2 k hk))
    have := node_op h.1
    exact h1.trans (Adds.node ins rls n nm _ (by omega))
theorem rulesE_append (ins rls : List (List UInt8)) : ∀ (a b : List Ex) (i : Int) (m : Em), rulesE ins rls (a ++ b) i m = rulesE ins rls b (i + a.length) (rulesE ins rls a i m)
  | [], b, i, m => by simp [rulesE]
  | x :: a, b, i, m => by
    show rulesE ins rls (a ++ b) (i + 1) _ = _
    rw [rulesE_append ins rls a b]
    simp only [rulesE, List.length_cons]
    congr 1
    omega
/-- The expressions of rules are what their texts say. -/
theorem rulG_map : ∀ (rs : List Rl) (env : List Sg) (l : List Ex) (i : Int) (env' : List Sg) (l' : List Ex), rulG rs env l i = .ok (env', l') → l' = l ++ rs.map fun r => (parseP r.text).1
  | [], env, l, i, env', l', h => by cases h; simp
  | r :: rs, env, l, i, env', l', h => by
    unfold rulG at h
    split at h
    · cases h
    split at h
    · cases h
    split at h
    · cases h
    rw [rulG_map rs _ _ _ _ _ h]
    simp
theorem rulG_err : ∀ (rs : List Rl) (env : List Sg) (l : List Ex) (i j e : Int), rulG rs env l i = .error (j, e) → e ≠ 0
  | [], env, l, i, j, e, h => by cases h
  | r :: rs, env, l, i, j, e, h => by
    unfold rulG at h
    split at h
    · injection h with h; injection h with _ h; rw [← h]; decide
    split at h
    · injection h with h; injection h with _ h; rw [← h]; decide
    split at h
    · injection h with h; injection h with _ h; rw [← h]; assumption
    exact rulG_err rs _ _ _ _ _ h
theorem kndG_err (env : List Sg) : ∀ (l : List Ex) (i j e : Int), kndG env l i = some (j, e) → e ≠ 0
  | [], i, j, e, h => by cases h
  | x :: l, i, j, e, h => by
    unfold kndG at h
    split at h
    · injection h with h; injection h with _ h; rw [← h]; assumption
    split at h
    · injection h with h; injection h with _ h; rw [← h]; decide
    exact kndG_err env l _ _ _ h
theorem rulP_map {rs : List Rl} {ins : List Sg} (h : (rulP rs ins).2.2 = 0) : (rulP rs ins).1 = rs.map fun r => (parseP r.text).1 := by
  unfold rulP at h ⊢
  split
  · rename_i hb; rw [if_pos hb] at h; exact absurd h (show ¬ (3 : Int) = 0 by decide)
  rename_i hb
  rw [if_neg hb] at h
  split
  · rename_i hg; rw [if_pos hg] at h; exact absurd h (show ¬ (1 : Int) = 0 by decide)
  rename_i hg
  rw [if_neg hg] at h
  cases hr : rulG rs ins [] 0 with
  | error e =>
    obtain ⟨i, e⟩ := e
    rw [hr] at h
    exact absurd h (rulG_err _ _ _ _ _ _ hr)
  | ok v =>
    obtain ⟨env, l⟩ := v
    rw [hr] at h
    have := rulG_map _ _ _ _ _ _ hr
    dsimp only at h ⊢
    cases hn : kndG env l 0 with
    | some v =>
      obtain ⟨i, e⟩ := v
      rw [hn] at h
      exact absurd h (kndG_err _ _ _ _ _ hn)
    | none => simpa using this
/-- The code of the first rules stands ahead, whatever the last rule says. -/
theorem prefix_code (rs : List Rl) (ins : List Sg) (a : List Ex) (x : Ex) (hx : okG 16 x) :
    ∃ c, (emP rs ins (a ++ [x])).code = (emP rs ins a).code ++ c ∧ ∀ i ∈ c, i.op = 32 → i.a = (a.length : Int) := by
  unfold emP
  rw [rulesE_append]
  simp only [rulesE]
  obtain ⟨c, h1, h2⟩ := Adds.expr (ins.map (·.nm)) (rs.map (·.nm)) 16 x (rulesE (ins.map (·.nm)) (rs.map (·.nm)) a 0 ⟨[], [], 0, 0⟩) hx
  refine ⟨c ++ [⟨32, 0 + (a.length : Int)⟩], ?_, fun i hi h32 => ?_⟩
  · show (addE _ _ _).code = _
    unfold addE
    rw [h1, List.append_assoc]
  · rcases List.mem_append.1 hi with q | q
    · exact absurd h32 (h2 i q)
    · rw [List.mem_singleton.1 q]
      show 0 + (a.length : Int) = _
      omega
end Go.Proofs.YtcikenlflcofbaaGreatDoor
