/-
  Logic equations in plain words: expressions, their validity, their text, the tokens of a text and its parsing, as functions on lists. No program is named here.
-/
namespace Go.Proofs.YtmbmngnnfkdngaaGreatDoor

/-- An expression. -/
inductive Ex where
  | mk (op n : Int) (name : List UInt8) (kids : List Ex)

/-- A token. -/
structure Tok where
  kind : Int
  text : List UInt8
  pos : Int
  n : Int

def letterB (c : UInt8) : Bool := (97 ≤ c && c ≤ 122) || (65 ≤ c && c ≤ 90)
def digitB (c : UInt8) : Bool := 48 ≤ c && c ≤ 57
def wordB (c : UInt8) : Bool := letterB c || digitB c || c == 95

def opWords : List (List UInt8) := [[110, 111, 116], [97, 110, 100], [111, 114], [120, 111, 114], [60], [62], [61], [43], [45], [109, 105, 110], [109, 97, 120], [97, 98, 115], [105, 102], [114, 105, 115, 101], [102, 97, 108, 108], [100, 101, 108, 97, 121], [104, 111, 108, 100], [108, 97, 116, 99, 104], [99, 111, 117, 110, 116]]
def resWords : List (List UInt8) := [[116, 114, 117, 101], [102, 97, 108, 115, 101], [110, 111, 116], [97, 110, 100], [111, 114], [120, 111, 114], [109, 105, 110], [109, 97, 120], [97, 98, 115], [105, 102], [114, 105, 115, 101], [102, 97, 108, 108], [100, 101, 108, 97, 121], [104, 111, 108, 100], [108, 97, 116, 99, 104], [99, 111, 117, 110, 116]]
def callWords : List (List UInt8) := [[109, 105, 110], [109, 97, 120], [97, 98, 115], [105, 102], [114, 105, 115, 101], [102, 97, 108, 108], [100, 101, 108, 97, 121], [104, 111, 108, 100], [108, 97, 116, 99, 104], [99, 111, 117, 110, 116]]
def reservedB (s : List UInt8) : Bool := resWords.contains s
/-- station.Name's. -/
def plainB (s : List UInt8) : Bool := match s with
  | [] => false
  | c :: r => decide (r.length < 12) && letterB c && r.all wordB
def nameB (s : List UInt8) : Bool := plainB s && !reservedB s
def wordP (op : Int) : List UInt8 := if 4 ≤ op ∧ op ≤ 22 then opWords.getD (op - 4).toNat [] else []
def opFrom (s : List UInt8) : List (List UInt8) → Int → Int
  | [], _ => 0
  | x :: l, k => if x == s then k else opFrom s l (k + 1)
def operationP (s : List UInt8) : Int := opFrom s opWords 4
def arityP (op : Int) : Int :=
  if op = 1 ∨ op = 2 ∨ op = 3 then 0
  else if op = 4 ∨ op = 15 ∨ op = 17 ∨ op = 18 ∨ op = 19 ∨ op = 20 then 1
  else if op = 16 then 3
  else if 1 ≤ op ∧ op ≤ 22 then 2 else -1
def timedB (op : Int) : Bool := decide (op = 19 ∨ op = 20)
def infixB (op : Int) : Bool := decide (5 ≤ op ∧ op ≤ 12)
def mostP (op : Int) : Int := if op = 1 then 1 else if op = 2 then 32767 else if op = 19 ∨ op = 20 then 500 else 0
def nodeB (op n : Int) (nm : List UInt8) (k : Nat) : Bool :=
  decide ((k : Int) = arityP op) && (if op = 3 then decide (n = 0) && nameB nm else nm.isEmpty && decide (0 ≤ n ∧ n ≤ mostP op))

/-- The nodes that are left behind a list, or none. -/
def vL (f : Nat → Ex → Option Nat) : Nat → List Ex → Option Nat
  | left, [] => some left
  | left, k :: ks => match f left k with
    | none => none
    | some l => vL f l ks
def vG : Nat → Nat → Ex → Option Nat
  | 0, _, _ => none
  | d + 1, left, .mk op n nm ks => if left = 0 ∨ nodeB op n nm ks.length = false then none else vL (vG d) (left - 1) ks
def validP (x : Ex) : Bool := (vG 16 60 x).isSome

/-- What a token's round finds at place i: a token or nothing, and the next place; or an error's place and number. -/
def runB (p : UInt8 → Bool) (t : List UInt8) (i : Nat) : Nat := i + ((t.drop i).takeWhile p).length
def decV (l : List UInt8) : Nat := l.foldl (fun a c => 10 * a + (c.toNat - 48)) 0
def symB (c : UInt8) : Bool := [40, 41, 44, 60, 62, 61, 43, 45].contains c
def cutB (t : List UInt8) (i j : Nat) : List UInt8 := (t.take j).drop i
def tokAt (t : List UInt8) (i : Nat) (c : UInt8) : Except (Int × Int) (Option Tok × Nat) :=
  if c == 32 then .ok (none, i + 1)
  else if letterB c then
    if 12 < runB wordB t (i + 1) - i then .error (i, 7) else .ok (some ⟨1, cutB t i (runB wordB t (i + 1)), i, 0⟩, runB wordB t (i + 1))
  else if digitB c then
    if 32767 < decV (cutB t i (runB digitB t (i + 1))) ∨ (1 < (cutB t i (runB digitB t (i + 1))).length ∧ c = 48) then .error (i, 2)
    else .ok (some ⟨2, cutB t i (runB digitB t (i + 1)), i, decV (cutB t i (runB digitB t (i + 1)))⟩, runB digitB t (i + 1))
  else if symB c then .ok (some ⟨3, [c], i, 0⟩, i + 1) else .error (i, 5)
def toksG (t : List UInt8) : Nat → Nat → List Tok → Except (Int × Int) (List Tok)
  | 0, _, acc => .ok acc
  | f + 1, i, acc => match t[i]? with
    | none => .ok acc
    | some c => match tokAt t i c with
      | .error e => .error e
      | .ok (none, j) => toksG t f j acc
      | .ok (some k, j) => toksG t f j (acc ++ [k])
def endTok (t : List UInt8) : Tok := ⟨0, [], t.length, 0⟩
/-- The tokens of a text, without the one at its end. -/
def toksP (t : List UInt8) : Except (Int × Int) (List Tok) := toksG t (t.length + 1) 0 []

/-- What a part of the parser comes to: nothing yet (more rounds wanted), an error, or what was read, the next place and the first late delay. -/
abbrev Res (α : Type) := Option (Except (Int × Int) (α × Nat × Int))
def tk (L : List Tok) (i : Nat) : Tok := L.getD i ⟨0, [], 0, 0⟩
def takeI (L : List Tok) (i : Nat) : Nat := if (tk L i).kind = 0 then i else i + 1
def isT (L : List Tok) (i : Nat) (s : List UInt8) : Bool := (tk L i).text == s
def stopT {α : Type} (L : List Tok) (i : Nat) : Res α := some (.error ((tk L i).pos, 6))
/-- A part's outcome handed on. -/
def Res.go {α β : Type} (r : Res α) (f : α → Nat → Int → Res β) : Res β := match r with
  | none => none
  | some (.error e) => some (.error e)
  | some (.ok (x, i, late)) => f x i late
def needP {α : Type} (L : List Tok) (s : List UInt8) (i : Nat) (f : Nat → Res α) : Res α := if isT L i s then f (takeI L i) else stopT L i
/-- Operands joined by operators of one level, behind the first. -/
def pMore (L : List Tok) (e : Nat → Int → Res Ex) (ops : List (List UInt8)) : Nat → Ex → Nat → Int → Res Ex
  | 0, _, _, _ => none
  | g + 1, x, i, late => if ops.contains (tk L i).text then (e (takeI L i) late).go fun y j la => pMore L e ops g (.mk (operationP (tk L i).text) 0 [] [x, y]) j la
    else some (.ok (x, i, late))
def pChain (L : List Tok) (e : Nat → Int → Res Ex) (ops : List (List UInt8)) (g : Nat) (i : Nat) (late : Int) : Res Ex := (e i late).go fun x j la => pMore L e ops g x j la
/-- The operands of a call: k more behind acc. -/
def pArgs (L : List Tok) (e : Nat → Int → Res Ex) : Nat → List Ex → Nat → Int → Res (List Ex)
  | 0, acc, i, late => some (.ok (acc, i, late))
  | k + 1, acc, i, late => if acc.isEmpty then (e i late).go fun y j la => pArgs L e k (acc ++ [y]) j la
    else needP L [44] i fun i' => (e i' late).go fun y j la => pArgs L e k (acc ++ [y]) j la
def pLast (L : List Tok) (op n : Int) (ks : List Ex) (i : Nat) (late : Int) : Res Ex := needP L [41] i fun j => some (.ok (.mk op n [] ks, j, late))
def pCall (L : List Tok) (e : Nat → Int → Res Ex) (op : Int) (i : Nat) (late : Int) : Res Ex :=
  needP L [40] i fun i1 => (pArgs L e (arityP op).toNat [] i1 late).go fun ks i2 la =>
    if timedB op then needP L [44] i2 fun i3 =>
      if (tk L i3).kind = 2 then pLast L op (tk L i3).n ks (takeI L i3) (if 500 < (tk L i3).n ∧ la < 0 then (tk L i3).pos else la) else stopT L i3
    else pLast L op 0 ks i2 la
def pPrim (L : List Tok) (e : Nat → Int → Res Ex) (i : Nat) (late : Int) : Res Ex :=
  if isT L i [40] then (e (takeI L i) late).go fun x j la => needP L [41] j fun k => some (.ok (x, k, la))
  else if isT L i [116, 114, 117, 101] then some (.ok (.mk 1 1 [] [], takeI L i, late))
  else if isT L i [102, 97, 108, 115, 101] then some (.ok (.mk 1 0 [] [], takeI L i, late))
  else if callWords.contains (tk L i).text then pCall L e (operationP (tk L i).text) (takeI L i) late
  else if (tk L i).kind = 2 then some (.ok (.mk 2 (tk L i).n [] [], takeI L i, late))
  else if (tk L i).kind = 1 ∧ reservedB (tk L i).text = false then some (.ok (.mk 3 0 (tk L i).text [], takeI L i, late))
  else stopT L i
inductive Lv where
  | expr | xor | conj | neg | rel | sum | prim
/-- The parser's parts, f rounds deep. -/
def pLev (L : List Tok) : Nat → Lv → Nat → Int → Res Ex
  | 0, _, _, _ => none
  | f + 1, .expr, i, late => pChain L (pLev L f .xor) [[111, 114]] f i late
  | f + 1, .xor, i, late => pChain L (pLev L f .conj) [[120, 111, 114]] f i late
  | f + 1, .conj, i, late => pChain L (pLev L f .neg) [[97, 110, 100]] f i late
  | f + 1, .neg, i, late => if isT L i [110, 111, 116] then (pLev L f .neg (takeI L i) late).go fun x j la => some (.ok (.mk 4 0 [] [x], j, la)) else pLev L f .rel i late
  | f + 1, .rel, i, late => (pLev L f .sum i late).go fun x j la =>
      if [[60], [62], [61]].contains (tk L j).text then (pLev L f .sum (takeI L j) la).go fun y k lb => some (.ok (.mk (operationP (tk L j).text) 0 [] [x, y], k, lb))
      else some (.ok (x, j, la))
  | f + 1, .sum, i, late => pChain L (pLev L f .prim) [[43], [45]] f i late
  | f + 1, .prim, i, late => pPrim L (pLev L f .expr) i late

def Ex.zero : Ex := .mk 0 0 [] []
/-- Parse's answer once the parser's part has come to an end. -/
def endP (L : List Tok) (x : Ex) (i : Nat) (late : Int) : Ex × Int × Int :=
  if (tk L i).kind ≠ 0 then (.zero, (tk L i).pos, 6) else if 0 ≤ late then (.zero, late, 2) else if validP x then (x, 0, 0) else (.zero, 0, 17)
def parseF (f : Nat) (t : List UInt8) : Option (Ex × Int × Int) :=
  if 120 < t.length then some (.zero, 0, 4) else match toksP t with
    | .error (a, e) => some (.zero, a, e)
    | .ok l => match pLev (l ++ [endTok t]) f .expr 0 (-1) with
      | none => none
      | some (.error (a, e)) => some (.zero, a, e)
      | some (.ok (x, i, late)) => some (endP (l ++ [endTok t]) x i late)
end Go.Proofs.YtmbmngnnfkdngaaGreatDoor
