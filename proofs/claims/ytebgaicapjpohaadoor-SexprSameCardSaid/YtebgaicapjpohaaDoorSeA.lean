/- S-expressions: the tree, and what the reader reads; plain. -/
import Derived.Test.YtebgaicapjpohaaDoorBase
namespace Go.Proofs.YtebgaicapjpohaaDoor
set_option linter.unusedSimpArgs false
set_option linter.unusedVariables false
open Go
set_option linter.unusedVariables false

/-- An expression: its kind (1 a word, 2 a number, 3 a list), value, line, column, text, parts. -/
inductive Sx where
  | mk (kind value line column : Int) (text : List UInt8) (kids : List Sx)
def Sx.kind : Sx → Int | .mk k _ _ _ _ _ => k
def Sx.value : Sx → Int | .mk _ v _ _ _ _ => v
def Sx.line : Sx → Int | .mk _ _ l _ _ _ => l
def Sx.column : Sx → Int | .mk _ _ _ c _ _ => c
def Sx.text : Sx → List UInt8 | .mk _ _ _ _ t _ => t
def Sx.kids : Sx → List Sx | .mk _ _ _ _ _ k => k
def Sx.none : Sx := .mk 0 0 0 0 [] []
def sx (l : List Sx) (k : Nat) : Sx := l.getD k Sx.none
def sepB (c : UInt8) : Bool := c == 32 || c == 9 || c == 13 || c == 10
def digB (c : UInt8) : Bool := decide (48 ≤ c.toNat) && decide (c.toNat ≤ 57)
/-- A byte of a token. -/
def tokB (c : UInt8) : Bool := !sepB c && !(c == 40 || c == 41 || c == 59)
/-- The position behind a byte. -/
def stepP (c : UInt8) (p : Int × Int) : Int × Int := if c = 10 then (p.1 + 1, 1) else (p.1, p.2 + 1)
/-- To the next token (cm: within a comment). -/
def skipP : Bool → List UInt8 → Int × Int → List UInt8 × Int × Int
  | _, [], p => ([], p)
  | false, c :: r, p => if sepB c = true then skipP false r (stepP c p) else if c = 59 then skipP true r (stepP c p) else (c :: r, p)
  | true, c :: r, p => if c = 10 then skipP false r (stepP c p) else skipP true r (stepP c p)
/-- Without a sign ahead. -/
def unsP (s : List UInt8) : List UInt8 := match s with | 45 :: r => r | r => r
def numB (s : List UInt8) : Bool := (unsP s).all digB && decide (unsP s ≠ [])
/-- The value of digits; nothing where it passes the limit. -/
def valP : Int → List UInt8 → Option Int
  | n, [] => some n
  | n, c :: r => if 1099511627776 < 10 * n + (c.toNat - 48 : Int) then none else valP (10 * n + (c.toNat - 48 : Int)) r
def valueP (s : List UInt8) : Option Int := (valP 0 (unsP s)).map fun n => if s.head? = some 45 then -n else n
/-- A byte of a word, in lower case. -/
def lowB (c : UInt8) : Option UInt8 :=
  if 65 ≤ c.toNat ∧ c.toNat ≤ 90 then some (c + 32) else if (97 ≤ c.toNat ∧ c.toNat ≤ 122) ∨ digB c = true ∨ c ∈ ([45, 95, 63, 58, 60, 62, 61, 43, 42] : List UInt8) then some c else none
def lowP : List UInt8 → Option (List UInt8)
  | [] => some []
  | c :: r => match lowB c, lowP r with
    | some x, some y => some (x :: y)
    | _, _ => none
def lowerP (s : List UInt8) : Option (List UInt8) := if s = [] ∨ 32 < s.length then none else lowP s
/-- A token: its expression, or the error's number. -/
def tokP (s : List UInt8) (p : Int × Int) : Sx ⊕ Int :=
  if numB s = true then match valueP s with | some n => .inl (.mk 2 n p.1 p.2 [] []) | none => .inr 1
  else match lowerP s with | some t => .inl (.mk 1 0 p.1 p.2 t []) | none => .inr 8
/-- The reader: what is left, the position, the number of expressions, the open lists (the innermost first; the last is the text's). -/
structure Rd where
  rest : List UInt8
  pos : Int × Int
  nodes : Nat
  open_ : List Sx
def Sx.push (x : Sx) (k : Sx) : Sx := .mk x.kind x.value x.line x.column x.text (x.kids ++ [k])
def addP (k : Sx) : List Sx → List Sx
  | [] => []
  | x :: r => x.push k :: r
/-- The next token, which begins with c. -/
def nextP (c : UInt8) (r : List UInt8) (s : Rd) : Rd ⊕ Int :=
  if c = 40 then (if 32 < s.open_.length ∨ s.nodes = 4096 then .inr 5 else .inl ⟨r, stepP c s.pos, s.nodes + 1, .mk 3 0 s.pos.1 s.pos.2 [] [] :: s.open_⟩)
  else if c = 41 then match s.open_ with
    | x :: y :: q => .inl ⟨r, stepP c s.pos, s.nodes, y.push x :: q⟩
    | _ => .inr 2
  else match tokP ((c :: r).takeWhile tokB) s.pos with
    | .inr e => .inr e
    | .inl x => if s.nodes = 4096 then .inr 5 else .inl ⟨(c :: r).dropWhile tokB, (s.pos.1, s.pos.2 + ((c :: r).takeWhile tokB).length), s.nodes + 1, addP x s.open_⟩
/-- To the end of the text: the expressions, or the error's position and number. -/
def runP : Nat → Rd → List Sx ⊕ (Int × Int × Int)
  | 0, _ => .inr (0, 0, 0)
  | n + 1, s => match skipP false s.rest s.pos with
    | ([], p) => match s.open_ with
      | [x] => .inl x.kids
      | x :: _ => .inr (x.line, x.column, 2)
      | [] => .inr (0, 0, 0)
    | (c :: r, p) => match nextP c r ⟨c :: r, p, s.nodes, s.open_⟩ with
      | .inr e => .inr (p.1, p.2, e)
      | .inl t => runP n t
def readP (text : List UInt8) : List Sx ⊕ (Int × Int × Int) := if 65536 < text.length then .inr (0, 0, 5) else runP (text.length + 1) ⟨text, (1, 1), 0, [Sx.none]⟩
end Go.Proofs.YtebgaicapjpohaaDoor
