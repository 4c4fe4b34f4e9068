/- Tokens, without any program: what the lexer computes. -/
set_option linter.all false
set_option linter.unusedVariables false
set_option linter.unusedSimpArgs false
namespace Go.Ev

def isBlank (c : UInt8) : Bool := decide (c.toNat = 32) || decide (c.toNat = 9) || decide (c.toNat = 10) || decide (c.toNat = 13)
def notNL (c : UInt8) : Bool := !decide (c.toNat = 10)

abbrev Bs := List UInt8

/-- A token: kind, text, its int, its bits, its place. -/
structure Tok where
  kind : Nat
  text : Bs
  n : Nat
  bits : Nat
  pos : Nat
  deriving DecidableEq, Inhabited

/-- Where a byte stands in a text: -1, if it doesn't. -/
def findB (c : Nat) : Bs → Nat → Int
  | [], _ => -1
  | x :: r, i => bif x.toNat.beq c then i else findB c r (i + 1)

def hasP (a b : Bs) : Bool := a.take b.length == b

def skip1 (l : Bs) : Bs :=
  let l1 := l.dropWhile isBlank
  if hasP l1 [47, 47] then l1.dropWhile notNL else l1
def skipL : Nat → Bs → Bs
  | 0, l => l
  | n + 1, l => if (skip1 l).length = l.length then l else skipL n (skip1 l)
def skip (l : Bs) : Bs := skipL l.length l

end Go.Ev
