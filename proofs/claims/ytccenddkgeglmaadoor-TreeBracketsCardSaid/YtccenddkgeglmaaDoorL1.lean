/- Tokens, without any program: what the lexer computes. -/
set_option linter.all false
set_option linter.unusedVariables false
set_option linter.unusedSimpArgs false
namespace Go.Ev

def isDigit (c : UInt8) : Bool := decide (48 ≤ c.toNat) && decide (c.toNat ≤ 57)
def isLetter (c : UInt8) : Bool := (decide (97 ≤ c.toNat) && decide (c.toNat ≤ 122)) || (decide (65 ≤ c.toNat) && decide (c.toNat ≤ 90)) || decide (c.toNat = 95)
def isWord (c : UInt8) : Bool := isLetter c || isDigit c
def isBlank (c : UInt8) : Bool := decide (c.toNat = 32) || decide (c.toNat = 9) || decide (c.toNat = 10) || decide (c.toNat = 13)
def notNL (c : UInt8) : Bool := !decide (c.toNat = 10)

abbrev Bs := List UInt8

/-- A token: kind, text, its int, its bits, its place. -/
structure Tok where
  kind : Nat
  text : Bs
  n : Nat
  bits : Nat
  pos : Nat
  deriving DecidableEq, Inhabited

abbrev Err := Nat × Nat

def keys : List Bs := [[97, 100, 100], [97, 116, 111, 109, 105, 99], [98, 111, 111, 108], [99, 104, 97, 110], [101, 108, 115, 101], [102, 97, 105, 108], [102, 97, 108, 115, 101], [102, 108, 111, 97, 116], [102, 117, 110, 99], [103, 101, 116], [103, 111], [105, 102], [105, 110, 116], [108, 111, 99, 107], [109, 117, 116, 101, 120], [112, 117, 116], [114, 101, 99, 118], [114, 101, 116, 117, 114, 110], [115, 101, 110, 100], [116, 114, 117, 101], [117, 110, 108, 111, 99, 107], [118, 97, 114], [119, 104, 105, 108, 101]]
def marks2 : List Bs := [[58, 61], [61, 61], [33, 61], [60, 61], [62, 61], [38, 38], [124, 124]]
def marks1 : Bs := [43, 45, 42, 47, 37, 60, 62, 61, 33, 40, 41, 123, 125, 91, 93, 44, 59]
def hexs : Bs := [48, 49, 50, 51, 52, 53, 54, 55, 56, 57, 97, 98, 99, 100, 101, 102]

/-- Where a byte stands in a text: -1, if it doesn't. -/
def findB (c : Nat) : Bs → Nat → Int
  | [], _ => -1
  | x :: r, i => bif x.toNat.beq c then i else findB c r (i + 1)

def hasP (a b : Bs) : Bool := a.take b.length == b

def skip1 (l : Bs) : Bs :=
  let l1 := l.dropWhile isBlank
  if hasP l1 [47, 47] then l1.dropWhile notNL else l1
def skipL : Nat → Bs → Bs
  | 0, l => l
  | n + 1, l => if (skip1 l).length = l.length then l else skipL n (skip1 l)
def skip (l : Bs) : Bs := skipL l.length l

def headB (p : UInt8 → Bool) : Bs → Bool
  | c :: _ => p c
  | [] => false
def aloneE (N : Nat) (l : Bs) (x : Tok) : Except Err (Tok × Bs) :=
  if headB isWord l then .error (2, N - l.length) else .ok (x, l)
def wordTok (N : Nat) (l : Bs) : Except Err (Tok × Bs) :=
  let t := l.takeWhile isWord
  if 24 < t.length then .error (6, N - l.length) else .ok (⟨if keys.contains t then 2 else 1, t, 0, 0, N - l.length⟩, l.dropWhile isWord)
def decVal (t : Bs) : Nat := t.foldl (fun v c => 10 * v + (c.toNat - 48)) 0
def numTok (N : Nat) (l : Bs) : Except Err (Tok × Bs) :=
  let zero := match l with | c :: _ => decide (c.toNat = 48) | [] => false
  let t := if zero then [48] else l.takeWhile isDigit
  let r := if zero then l.drop 1 else l.dropWhile isDigit
  if decVal t < 2 ^ 63 then aloneE N r ⟨3, t, decVal t, 0, N - l.length⟩ else .error (1, N - l.length)
def hexVal (t : Bs) : Nat := t.foldl (fun v c => (16 * v % 2 ^ 64) ||| (findB c.toNat hexs 0).toNat) 0
def isHex (c : UInt8) : Bool := decide (0 ≤ findB c.toNat hexs 0)
def fltTok (N : Nat) (l : Bs) : Except Err (Tok × Bs) :=
  let d := (l.drop 1).take 16
  if d.length = 16 ∧ d.all isHex = true then aloneE N (l.drop 17) ⟨4, l.take 17, 0, hexVal d, N - l.length⟩ else .error (2, N - l.length)
def markTok (N : Nat) (l : Bs) : Except Err (Tok × Bs) :=
  if marks2.any (hasP l) then .ok (⟨5, l.take 2, 0, 0, N - l.length⟩, l.drop 2)
  else match l with
    | c :: r => if 0 ≤ findB c.toNat marks1 0 then .ok (⟨5, [c], 0, 0, N - l.length⟩, r) else .error (2, N - l.length)
    | [] => .error (2, N)
def nextTok (N : Nat) (l : Bs) : Except Err (Tok × Bs) :=
  match l with
  | c :: _ => if isLetter c then wordTok N l else if isDigit c then numTok N l else if c.toNat = 35 then fltTok N l else markTok N l
  | [] => .error (2, N)

/-- Tokens from a place on at which a token begins; so many are there already. -/
def toksL (N : Nat) : Nat → Bs → Nat → Except Err (List Tok)
  | 0, _, _ => .error (0, 0)
  | f + 1, l, n =>
    if l = [] then .ok []
    else if n = 2000 then .error (6, N - l.length)
    else match nextTok N l with
      | .error e => .error e
      | .ok (t, r) => match toksL N f (skip r) (n + 1) with
        | .error e => .error e
        | .ok ts => .ok (t :: ts)
def tokens (s : Bs) : Except Err (List Tok) :=
  if 8192 < s.length then .error (6, 0) else toksL s.length (s.length + 1) (skip s) 0

end Go.Ev
