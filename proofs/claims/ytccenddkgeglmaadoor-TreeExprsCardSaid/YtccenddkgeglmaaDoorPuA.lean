/- Tokens, without any program: what the lexer computes. -/
set_option linter.all false
set_option linter.unusedVariables false
set_option linter.unusedSimpArgs false
namespace Go.Ev

def isDigit (c : UInt8) : Bool := decide (48 ≤ c.toNat) && decide (c.toNat ≤ 57)
def isLetter (c : UInt8) : Bool := (decide (97 ≤ c.toNat) && decide (c.toNat ≤ 122)) || (decide (65 ≤ c.toNat) && decide (c.toNat ≤ 90)) || decide (c.toNat = 95)
def isWord (c : UInt8) : Bool := isLetter c || isDigit c
def isBlank (c : UInt8) : Bool := decide (c.toNat = 32) || decide (c.toNat = 9) || decide (c.toNat = 10) || decide (c.toNat = 13)
def notNL (c : UInt8) : Bool := !decide (c.toNat = 10)

abbrev Bs := List UInt8

/-- A token: kind, text, its int, its bits, its place. -/
structure Tok where
  kind : Nat
  text : Bs
  n : Nat
  bits : Nat
  pos : Nat
  deriving DecidableEq, Inhabited

abbrev Err := Nat × Nat

def keys : List Bs := [[97, 100, 100], [97, 116, 111, 109, 105, 99], [98, 111, 111, 108], [99, 104, 97, 110], [101, 108, 115, 101], [102, 97, 105, 108], [102, 97, 108, 115, 101], [102, 108, 111, 97, 116], [102, 117, 110, 99], [103, 101, 116], [103, 111], [105, 102], [105, 110, 116], [108, 111, 99, 107], [109, 117, 116, 101, 120], [112, 117, 116], [114, 101, 99, 118], [114, 101, 116, 117, 114, 110], [115, 101, 110, 100], [116, 114, 117, 101], [117, 110, 108, 111, 99, 107], [118, 97, 114], [119, 104, 105, 108, 101]]
def marks2 : List Bs := [[58, 61], [61, 61], [33, 61], [60, 61], [62, 61], [38, 38], [124, 124]]
def marks1 : Bs := [43, 45, 42, 47, 37, 60, 62, 61, 33, 40, 41, 123, 125, 91, 93, 44, 59]
def hexs : Bs := [48, 49, 50, 51, 52, 53, 54, 55, 56, 57, 97, 98, 99, 100, 101, 102]

/-- Where a byte stands in a text: -1, if it doesn't. -/
def findB (c : Nat) : Bs → Nat → Int
  | [], _ => -1
  | x :: r, i => bif x.toNat.beq c then i else findB c r (i + 1)

def hasP (a b : Bs) : Bool := a.take b.length == b

def skip1 (l : Bs) : Bs :=
  let l1 := l.dropWhile isBlank
  if hasP l1 [47, 47] then l1.dropWhile notNL else l1
def skipL : Nat → Bs → Bs
  | 0, l => l
  | n + 1, l => if (skip1 l).length = l.length then l else skipL n (skip1 l)
def skip (l : Bs) : Bs := skipL l.length l

def headB (p : UInt8 → Bool) : Bs → Bool
  | c :: _ => p c
  | [] => false
def aloneE (N : Nat) (l : Bs) (x : Tok) : Except Err (Tok × Bs) :=
  if headB isWord l then .error (2, N - l.length) else .ok (x, l)
def wordTok (N : Nat) (l : Bs) : Except Err (Tok × Bs) :=
  let t := l.takeWhile isWord
  if 24 < t.length then .error (6, N - l.length) else .ok (⟨if keys.contains t then 2 else 1, t, 0, 0, N - l.length⟩, l.dropWhile isWord)
def decVal (t : Bs) : Nat := t.foldl (fun v c => 10 * v + (c.toNat - 48)) 0
def numTok (N : Nat) (l : Bs) : Except Err (Tok × Bs) :=
  let zero := match l with | c :: _ => decide (c.toNat = 48) | [] => false
  let t := if zero then [48] else l.takeWhile isDigit
  let r := if zero then l.drop 1 else l.dropWhile isDigit
  if decVal t < 2 ^ 63 then aloneE N r ⟨3, t, decVal t, 0, N - l.length⟩ else .error (1, N - l.length)
def hexVal (t : Bs) : Nat := t.foldl (fun v c => (16 * v % 2 ^ 64) ||| (findB c.toNat hexs 0).toNat) 0
def isHex (c : UInt8) : Bool := decide (0 ≤ findB c.toNat hexs 0)
def fltTok (N : Nat) (l : Bs) : Except Err (Tok × Bs) :=
  let d := (l.drop 1).take 16
  if d.length = 16 ∧ d.all isHex = true then aloneE N (l.drop 17) ⟨4, l.take 17, 0, hexVal d, N - l.length⟩ else .error (2, N - l.length)
def markTok (N : Nat) (l : Bs) : Except Err (Tok × Bs) :=
  if marks2.any (hasP l) then .ok (⟨5, l.take 2, 0, 0, N - l.length⟩, l.drop 2)
  else match l with
    | c :: r => if 0 ≤ findB c.toNat marks1 0 then .ok (⟨5, [c], 0, 0, N - l.length⟩, r) else .error (2, N - l.length)
    | [] => .error (2, N)
def nextTok (N : Nat) (l : Bs) : Except Err (Tok × Bs) :=
  match l with
  | c :: _ => if isLetter c then wordTok N l else if isDigit c then numTok N l else if c.toNat = 35 then fltTok N l else markTok N l
  | [] => .error (2, N)

/-- Tokens from a place on at which a token begins; so many are there already. -/
def toksL (N : Nat) : Nat → Bs → Nat → Except Err (List Tok)
  | 0, _, _ => .error (0, 0)
  | f + 1, l, n =>
    if l = [] then .ok []
    else if n = 2000 then .error (6, N - l.length)
    else match nextTok N l with
      | .error e => .error e
      | .ok (t, r) => match toksL N f (skip r) (n + 1) with
        | .error e => .error e
        | .ok ts => .ok (t :: ts)
def tokens (s : Bs) : Except Err (List Tok) :=
  if 8192 < s.length then .error (6, 0) else toksL s.length (s.length + 1) (skip s) 0

end Go.Ev
/- Tokens, without any program: what a token's reading takes. -/
namespace Go.Ev

theorem takeWhile_ne {p : UInt8 → Bool} {c : UInt8} {l : Bs} (h : p c = true) : (c :: l).takeWhile p ≠ [] := by
  rw [List.takeWhile_cons, if_pos h]; exact List.cons_ne_nil _ _
theorem aloneE_ok {N : Nat} {l r : Bs} {x t : Tok} (h : aloneE N l x = .ok (t, r)) : t = x ∧ r = l ∧ headB isWord l = false := by
  unfold aloneE at h
  split at h
  · cases h
  · rename_i hw
    cases h
    exact ⟨rfl, rfl, by simpa using hw⟩

def numZero (l : Bs) : Bool := match l with | c :: _ => decide (c.toNat = 48) | [] => false
def numText (l : Bs) : Bs := if numZero l then [48] else l.takeWhile isDigit
def numRest (l : Bs) : Bs := if numZero l then l.drop 1 else l.dropWhile isDigit
theorem numTok_eq (N : Nat) (l : Bs) : numTok N l = if decVal (numText l) < 2 ^ 63 then aloneE N (numRest l) ⟨3, numText l, decVal (numText l), 0, N - l.length⟩ else .error (1, N - l.length) := rfl
theorem nextTok_ok {N : Nat} {l r : Bs} {t : Tok} (h : nextTok N l = .ok (t, r)) : l = t.text ++ r ∧ t.text ≠ [] ∧ t.pos = N - l.length := by
  cases l with
  | nil => cases h
  | cons c l =>
    simp only [nextTok] at h
    split at h
    · rename_i hc
      simp only [wordTok] at h
      split at h
      · cases h
      · cases h
        refine ⟨(List.takeWhile_append_dropWhile).symm, ?_, rfl⟩
        exact takeWhile_ne (by simp [isWord, hc])
    · split at h
      · rename_i hc
        rw [numTok_eq] at h
        split at h
        · obtain ⟨rfl, rfl, _⟩ := aloneE_ok h
          simp only [numText, numRest, numZero]
          by_cases hz : c.toNat = 48
          · have hc48 : c = 48 := by
              apply UInt8.toNat_inj.1; rw [hz]; rfl
            simp [hc48]
          · simp only [hz, decide_false, Bool.false_eq_true, if_false]
            exact ⟨(List.takeWhile_append_dropWhile).symm, takeWhile_ne hc, trivial⟩
        · cases h
      · split at h
        · simp only [fltTok] at h
          split at h
          · rename_i hd
            obtain ⟨rfl, rfl, _⟩ := aloneE_ok h
            refine ⟨(List.take_append_drop 17 _).symm, ?_, rfl⟩
            simp
          · cases h
        · simp only [markTok] at h
          split at h
          · cases h
            exact ⟨(List.take_append_drop 2 _).symm, by simp, rfl⟩
          · split at h
            · cases h
              exact ⟨rfl, List.cons_ne_nil _ _, rfl⟩
            · cases h
theorem nextTok_len {N : Nat} {l r : Bs} {t : Tok} (h : nextTok N l = .ok (t, r)) : r.length < l.length := by
  obtain ⟨h1, h2, _⟩ := nextTok_ok h
  rw [h1, List.length_append]
  have := List.length_pos_iff.2 h2
  omega
end Go.Ev
/- Tokens, without any program: ints in digits, floats. -/
namespace Go.Ev

theorem isDigit_iff {c : UInt8} : isDigit c = true ↔ 48 ≤ c.toNat ∧ c.toNat ≤ 57 := by simp [isDigit]
end Go.Ev
/- Tokens, without any program: blanks ahead of a text move all places. -/
namespace Go.Ev

theorem dropWhile_blanks {b s : Bs} (hb : b.all isBlank = true) : (b ++ s).dropWhile isBlank = s.dropWhile isBlank := by
  induction b with
  | nil => rfl
  | cons c b ih =>
    simp only [List.all_cons, Bool.and_eq_true] at hb
    rw [List.cons_append, List.dropWhile_cons, if_pos hb.1, ih hb.2]
theorem skip1_le (l : Bs) : (skip1 l).length ≤ l.length := by
  unfold skip1
  simp only
  have h1 := (List.dropWhile_suffix isBlank (l := l)).length_le
  split
  · exact Nat.le_trans (List.dropWhile_suffix notNL (l := l.dropWhile isBlank)).length_le h1
  · exact h1
theorem skip1_suf' (l : Bs) : skip1 l <:+ l := by
  unfold skip1
  simp only
  split
  · exact (List.dropWhile_suffix _).trans (List.dropWhile_suffix _)
  · exact List.dropWhile_suffix _
theorem skipL_fuel' : ∀ (n m : Nat) (l : Bs), l.length ≤ n → l.length ≤ m → skipL n l = skipL m l := by
  intro n
  induction n with
  | zero =>
    intro m l h1 _
    have hl : l = [] := List.length_eq_zero_iff.1 (by omega)
    subst hl
    cases m with
    | zero => rfl
    | succ m => simp [skipL, skip1, hasP]
  | succ n ih =>
    intro m l h1 h2
    cases m with
    | zero =>
      have hl : l = [] := List.length_eq_zero_iff.1 (by omega)
      subst hl
      simp [skipL, skip1, hasP]
    | succ m =>
      simp only [skipL]
      split
      · rfl
      · rename_i hne
        have := skip1_le l
        exact ih m _ (by omega) (by omega)
theorem skip_eq' (l : Bs) : skip l = if (skip1 l).length = l.length then l else skip (skip1 l) := by
  have h : skip l = skipL (l.length + 1) l := skipL_fuel' _ _ _ (Nat.le_refl _) (by omega)
  rw [h]
  simp only [skipL]
  split
  · rfl
  · exact skipL_fuel' _ _ _ (skip1_le l) (Nat.le_refl _)
/-- Skipping once makes no difference. -/
theorem skip_skip1 (l : Bs) : skip (skip1 l) = skip l := by
  rw [skip_eq' l]
  split
  · rename_i h
    rw [(skip1_suf' l).eq_of_length h]
    rw [skip_eq', if_pos h]
  · rfl
theorem skip_blanks {b s : Bs} (hb : b.all isBlank = true) : skip (b ++ s) = skip s := by
  have h : skip1 (b ++ s) = skip1 s := by simp only [skip1, dropWhile_blanks hb]
  rw [← skip_skip1 (b ++ s), h, skip_skip1]
theorem skip_suf' (l : Bs) : skip l <:+ l := by
  suffices ∀ n (l : Bs), l.length ≤ n → skip l <:+ l from this _ l (Nat.le_refl _)
  intro n
  induction n with
  | zero =>
    intro l h
    have hl : l = [] := List.length_eq_zero_iff.1 (by omega)
    subst hl
    exact List.suffix_refl _
  | succ n ih =>
    intro l h
    rw [skip_eq']
    split
    · exact List.suffix_refl _
    · have := skip1_le l
      exact (ih _ (by omega)).trans (skip1_suf' l)

def Tok.move (m : Nat) (t : Tok) : Tok := { t with pos := t.pos + m }
/-- The statement's blanks. -/
def blk (k : Nat) : Bs := (List.range k).map fun i => [32, 10, 9, 13].getD (i % 4) 0
def okErr (N : Nat) {α : Type} : Except Err α → Prop
  | .ok _ => True
  | .error (e, p) => (1 ≤ e ∧ e ≤ 17) ∧ p ≤ N
theorem aloneE_err {N : Nat} {l : Bs} {t : Tok} : okErr N (aloneE N l t) := by
  unfold aloneE
  split
  · exact ⟨by decide, by omega⟩
  · trivial
theorem next_err {N : Nat} {l : Bs} : okErr N (nextTok N l) := by
  cases l with
  | nil => exact ⟨by decide, Nat.le_refl _⟩
  | cons c l =>
    simp only [nextTok]
    split
    · simp only [wordTok]
      split
      · exact ⟨by decide, by omega⟩
      · trivial
    · split
      · rw [numTok_eq]
        split
        · exact aloneE_err
        · exact ⟨by decide, by omega⟩
      · split
        · simp only [fltTok]
          split
          · exact aloneE_err
          · exact ⟨by decide, by omega⟩
        · simp only [markTok]
          split
          · trivial
          · split
            · trivial
            · exact ⟨by decide, by omega⟩
theorem toksL_err {N : Nat} : ∀ (f : Nat) (l : Bs) (n : Nat), l.length < f → okErr N (toksL N f l n) := by
  intro f
  induction f with
  | zero => intro l n h; omega
  | succ f ih =>
    intro l n hf
    simp only [toksL]
    split
    · trivial
    · split
      · exact ⟨by decide, by omega⟩
      · have h0 := next_err (N := N) (l := l)
        cases hx : nextTok N l with
        | error e => rw [hx] at h0; exact h0
        | ok x =>
          obtain ⟨t, r⟩ := x
          have h1 := nextTok_len hx
          have h2 := (skip_suf' r).length_le
          have h3 := ih (skip r) (n + 1) (by omega)
          simp only
          cases hy : toksL N f (skip r) (n + 1) with
          | error e => rw [hy] at h3; exact h3
          | ok ts => trivial
theorem toksL_len {N : Nat} : ∀ (f : Nat) (l : Bs) (n : Nat) (ts : List Tok), n ≤ 2000 → toksL N f l n = .ok ts → n + ts.length ≤ 2000 := by
  intro f
  induction f with
  | zero => intro l n ts _ h; cases h
  | succ f ih =>
    intro l n ts hn h
    simp only [toksL] at h
    split at h
    · cases h; simpa using hn
    · split at h
      · cases h
      · cases hx : nextTok N l with
        | error e => rw [hx] at h; cases h
        | ok x =>
          obtain ⟨t, r⟩ := x
          rw [hx] at h
          simp only at h
          cases hy : toksL N f (skip r) (n + 1) with
          | error e => rw [hy] at h; cases h
          | ok us =>
            rw [hy] at h
            cases h
            have := ih (skip r) (n + 1) us (by omega) hy
            simp only [List.length_cons]
            omega
theorem tokens_len {s : Bs} {ts : List Tok} (h : tokens s = .ok ts) : ts.length ≤ 2000 := by
  unfold tokens at h
  split at h
  · cases h
  · have := toksL_len _ _ _ _ (by decide) h
    omega

end Go.Ev
/- Tokens, without any program: tokens stand where they say; their texts with blanks between give the same tokens. -/
namespace Go.Ev

theorem hasP_2 {l : Bs} {x y : UInt8} (h : hasP l [x, y] = true) : ∃ r, l = x :: y :: r := by
  have h1 := beq_iff_eq.1 h
  match l, h1 with
  | a :: b :: r, h1 => simp at h1; obtain ⟨rfl, rfl⟩ := h1; exact ⟨r, rfl⟩
  | [a], h1 => simp at h1
  | [], h1 => simp at h1
/-- A rest that no token goes on in. -/
def Gap (r : Bs) : Prop := r = [] ∨ ∃ x, r = 32 :: x
theorem Gap.word {r : Bs} (h : Gap r) : headB isWord r = false := by
  rcases h with rfl | ⟨x, rfl⟩ <;> rfl
theorem Gap.digit {r : Bs} (h : Gap r) : headB isDigit r = false := by
  rcases h with rfl | ⟨x, rfl⟩ <;> rfl
theorem marks2_len : ∀ m ∈ marks2, m.length = 2 ∧ m[1]? ≠ some 32 := by decide
theorem skip_of_normal {c : UInt8} {l : Bs} (h1 : isBlank c = false) (h2 : hasP (c :: l) [47, 47] = false) : skip (c :: l) = c :: l := by
  have hd : (c :: l).dropWhile isBlank = c :: l := by rw [List.dropWhile_cons, if_neg (by simp [h1])]
  have e : skip1 (c :: l) = c :: l := by
    unfold skip1
    simp only [hd, h2, Bool.false_eq_true, if_false]
  rw [skip_eq', if_pos (by rw [e])]

end Go.Ev
/- Trees of expressions, without any program. -/
namespace Go.Ev

/-- A node of a tree. -/
inductive Nd where
  | mk (kind pos : Int) (name : Bs) (typ n size obj bits : Int) (kids : List Nd)
def Nd.kind : Nd → Int | ⟨k, _, _, _, _, _, _, _, _⟩ => k
def Nd.pos : Nd → Int | ⟨_, k, _, _, _, _, _, _, _⟩ => k
def Nd.name : Nd → Bs | ⟨_, _, k, _, _, _, _, _, _⟩ => k
def Nd.typ : Nd → Int | ⟨_, _, _, k, _, _, _, _, _⟩ => k
def Nd.n : Nd → Int | ⟨_, _, _, _, k, _, _, _, _⟩ => k
def Nd.size : Nd → Int | ⟨_, _, _, _, _, k, _, _, _⟩ => k
def Nd.obj : Nd → Int | ⟨_, _, _, _, _, _, k, _, _⟩ => k
def Nd.bits : Nd → Int | ⟨_, _, _, _, _, _, _, k, _⟩ => k
def Nd.kids : Nd → List Nd | ⟨_, _, _, _, _, _, _, _, k⟩ => k

/-- The token at the list's head; at the end, none's. -/
def hdT (E : Nat) : List Tok → Tok
  | [] => ⟨0, [], 0, 0, E⟩
  | t :: _ => t
def isT (ws : List Bs) : List Tok → Bool
  | [] => false
  | t :: _ => (decide (t.kind = 2) || decide (t.kind = 5)) && ws.contains t.text
abbrev PR := Except Err (Nd × List Tok)
/-- A parser of nodes: at so many levels, of these tokens. -/
abbrev PT := Nat → List Tok → PR

def binN (n : Nd) (op : Bs) (k : Nd) : Nd := .mk 31 n.pos op 0 0 0 0 0 [n, k]
def rowL (u : PT) (many : Bool) (ops : List Bs) (lv : Nat) : Nat → Nd → List Tok → PR
  | 0, _, _ => .error (0, 0)
  | f + 1, n, ts =>
    if isT ops ts then match u lv ts.tail with
      | .error e => .error e
      | .ok (k, ts') => if many then rowL u many ops lv f (binN n (hdT 0 ts).text k) ts' else .ok (binN n (hdT 0 ts).text k, ts')
    else .ok (n, ts)
def rowP (many : Bool) (ops : List Bs) (u : PT) : PT := fun lv ts =>
  match u lv ts with
  | .error e => .error e
  | .ok (n, ts') => rowL u many ops lv (ts'.length + 1) n ts'

/-- What stands between two marks, one level down. -/
def inP (E : Nat) (a b : Bs) (x : PT) : PT := fun lv ts =>
  if isT [a] ts then
    if lv = 16 then .error (3, (hdT E ts).pos)
    else match x (lv + 1) ts.tail with
      | .error e => .error e
      | .ok (k, ts') => if isT [b] ts' then .ok (k, ts'.tail) else .error (2, (hdT E ts').pos)
  else .error (2, (hdT E ts).pos)
def nameP (E : Nat) (x : PT) : PT := fun lv ts =>
  if isT [[91]] ts.tail then match inP E [91] [93] x lv ts.tail with
    | .error e => .error e
    | .ok (k, ts') => .ok (.mk 29 (hdT E ts).pos (hdT E ts).text 0 0 0 0 0 [k], ts')
  else .ok (.mk 28 (hdT E ts).pos (hdT E ts).text 0 0 0 0 0 [], ts.tail)
def primP (E : Nat) (x : PT) : PT := fun lv ts =>
  if (hdT E ts).kind = 3 then .ok (.mk 25 (hdT E ts).pos [] 0 (hdT E ts).n 0 0 0 [], ts.tail)
  else if (hdT E ts).kind = 4 then .ok (.mk 26 (hdT E ts).pos [] 0 0 0 0 (hdT E ts).bits [], ts.tail)
  else if (hdT E ts).kind = 1 then nameP E x lv ts
  else if isT [[116, 114, 117, 101]] ts then .ok (.mk 27 (hdT E ts).pos [] 0 1 0 0 0 [], ts.tail)
  else if isT [[102, 97, 108, 115, 101]] ts then .ok (.mk 27 (hdT E ts).pos [] 0 0 0 0 0 [], ts.tail)
  else if isT [[105, 110, 116], [102, 108, 111, 97, 116]] ts then match inP E [40] [41] x lv ts.tail with
    | .error e => .error e
    | .ok (k, ts') => .ok (.mk 30 (hdT E ts).pos (hdT E ts).text 0 0 0 0 0 [k], ts')
  else inP E [40] [41] x lv ts
def exprOf (u : PT) : PT :=
  rowP true [[124, 124]] (rowP true [[38, 38]] (rowP false [[61, 61], [33, 61], [60], [60, 61], [62], [62, 61]] (rowP true [[43], [45]] (rowP true [[42], [47], [37]] u))))
def unP (E : Nat) : Nat → PT
  | 0, _, _ => .error (0, 0)
  | f + 1, lv, ts =>
    if isT [[45], [33]] ts then
      if lv = 16 then .error (3, (hdT E ts).pos)
      else match unP E f (lv + 1) ts.tail with
        | .error e => .error e
        | .ok (k, ts') => .ok (.mk 30 (hdT E ts).pos (hdT E ts).text 0 0 0 0 0 [k], ts')
    else primP E (exprOf (unP E f)) lv ts
/-- A whole text by a parser. -/
def readP (p : Nat → Nat → PT) (s : Bs) : Except Err Nd :=
  match tokens s with
  | .error e => .error e
  | .ok ts => match p s.length (ts.length + 1) 0 ts with
    | .error e => .error e
    | .ok (n, []) => .ok n
    | .ok (_, t :: _) => .error (2, t.pos)
def exprP (E f : Nat) : PT := exprOf (unP E f)
def exprS (s : Bs) : Except Err Nd := readP exprP s

/-- Fuel is never short: a parser that, of fewer tokens than its fuel, gives an error of the document or takes tokens. -/
def Fine (m : Nat) (u : PT) : Prop := ∀ lv ts, ts.length ≤ m → match u lv ts with
  | .error e => e.1 = 2 ∨ e.1 = 3
  | .ok (_, ts') => ts'.length < ts.length
theorem isT_ne {ws : List Bs} {ts : List Tok} (h : isT ws ts = true) : ts ≠ [] := by rintro rfl; simp [isT] at h
theorem tail_lt {ts : List Tok} (h : ts ≠ []) : ts.tail.length < ts.length := by cases ts; exact absurd rfl h; simp
theorem rowL_fine {m : Nat} {u : PT} (hu : Fine m u) {many : Bool} {ops : List Bs} {lv : Nat} : ∀ (f : Nat) (n : Nd) (ts : List Tok), ts.length < f → ts.length ≤ m → match rowL u many ops lv f n ts with
    | .error e => e.1 = 2 ∨ e.1 = 3
    | .ok (_, ts') => ts'.length ≤ ts.length
  | 0, _, _, h, _ => absurd h (Nat.not_lt_zero _)
  | f + 1, n, ts, h, hm => by
    unfold rowL
    by_cases hi : isT ops ts = true
    · rw [if_pos hi]
      have ht := tail_lt (isT_ne hi)
      have h1 := hu lv ts.tail (by omega)
      cases hx : u lv ts.tail with
      | error e => rw [hx] at h1; exact h1
      | ok y =>
        obtain ⟨k, ts'⟩ := y
        rw [hx] at h1
        simp only at h1 ⊢
        cases many with
        | false => simp only [Bool.false_eq_true, if_false]; omega
        | true =>
          simp only [if_true]
          have h2 := rowL_fine hu (many := true) (ops := ops) (lv := lv) f (binN n (hdT 0 ts).text k) ts' (by omega) (by omega)
          revert h2
          cases rowL u true ops lv f (binN n (hdT 0 ts).text k) ts' with
          | error e => exact id
          | ok y => obtain ⟨_, z⟩ := y; intro h2; simp only at h2 ⊢; omega
    · rw [if_neg hi]; exact Nat.le_refl _
theorem rowP_fine {m : Nat} {u : PT} (hu : Fine m u) {many : Bool} {ops : List Bs} : Fine m (rowP many ops u) := by
  intro lv ts hm
  unfold rowP
  have h1 := hu lv ts hm
  cases hx : u lv ts with
  | error e => rw [hx] at h1; exact h1
  | ok y =>
    obtain ⟨n, ts'⟩ := y
    rw [hx] at h1
    simp only at h1 ⊢
    have h2 := rowL_fine hu (many := many) (ops := ops) (lv := lv) (ts'.length + 1) n ts' (by omega) (by omega)
    revert h2
    cases rowL u many ops lv (ts'.length + 1) n ts' with
    | error e => exact id
    | ok y => obtain ⟨_, z⟩ := y; intro h2; simp only at h2 ⊢; omega
theorem inP_fine {m E : Nat} {a b : Bs} {x : PT} (hx : Fine m x) : Fine (m + 1) (inP E a b x) := by
  intro lv ts hm
  unfold inP
  by_cases hi : isT [a] ts = true
  · rw [if_pos hi]
    have ht := tail_lt (isT_ne hi)
    by_cases hl : lv = 16
    · rw [if_pos hl]; exact .inr rfl
    · rw [if_neg hl]
      have h1 := hx (lv + 1) ts.tail (by omega)
      cases hy : x (lv + 1) ts.tail with
      | error e => rw [hy] at h1; exact h1
      | ok y =>
        obtain ⟨k, ts'⟩ := y
        rw [hy] at h1
        simp only at h1 ⊢
        by_cases hb : isT [b] ts' = true
        · rw [if_pos hb]
          have := tail_lt (isT_ne hb)
          simp only
          omega
        · rw [if_neg hb]; exact .inl rfl
  · rw [if_neg hi]; exact .inl rfl
theorem hdT_ne {E : Nat} {ts : List Tok} (h : (hdT E ts).kind ≠ 0) : ts ≠ [] := by rintro rfl; exact h rfl
theorem exprOf_fine {m : Nat} {u : PT} (hu : Fine m u) : Fine m (exprOf u) := rowP_fine (rowP_fine (rowP_fine (rowP_fine (rowP_fine hu))))
theorem primP_fine {m E : Nat} {x : PT} (hx : Fine m x) : Fine (m + 1) (primP E x) := by
  intro lv ts hm
  unfold primP
  by_cases h3 : (hdT E ts).kind = 3
  · rw [if_pos h3]; exact tail_lt (hdT_ne (E := E) (by omega))
  rw [if_neg h3]
  by_cases h4 : (hdT E ts).kind = 4
  · rw [if_pos h4]; exact tail_lt (hdT_ne (E := E) (by omega))
  rw [if_neg h4]
  by_cases h1 : (hdT E ts).kind = 1
  · rw [if_pos h1]
    have ht := tail_lt (hdT_ne (E := E) (ts := ts) (by omega))
    unfold nameP
    by_cases hb : isT [[91]] ts.tail = true
    · rw [if_pos hb]
      have h2 := inP_fine (E := E) (a := [91]) (b := [93]) hx lv ts.tail (by omega)
      cases hy : inP E [91] [93] x lv ts.tail with
      | error e => rw [hy] at h2; exact h2
      | ok y => obtain ⟨k, z⟩ := y; rw [hy] at h2; simp only at h2 ⊢; omega
    · rw [if_neg hb]; exact ht
  rw [if_neg h1]
  by_cases ht : isT [[116, 114, 117, 101]] ts = true
  · rw [if_pos ht]; exact tail_lt (isT_ne ht)
  rw [if_neg ht]
  by_cases hf : isT [[102, 97, 108, 115, 101]] ts = true
  · rw [if_pos hf]; exact tail_lt (isT_ne hf)
  rw [if_neg hf]
  by_cases hc : isT [[105, 110, 116], [102, 108, 111, 97, 116]] ts = true
  · rw [if_pos hc]
    have ht := tail_lt (isT_ne hc)
    have h2 := inP_fine (E := E) (a := [40]) (b := [41]) hx lv ts.tail (by omega)
    cases hy : inP E [40] [41] x lv ts.tail with
    | error e => rw [hy] at h2; exact h2
    | ok y => obtain ⟨k, z⟩ := y; rw [hy] at h2; simp only at h2 ⊢; omega
  rw [if_neg hc]
  exact inP_fine hx lv ts hm
theorem unP_fine {E : Nat} : ∀ f, Fine f (unP E (f + 1))
  | 0 => by
    intro lv ts hm
    have : ts = [] := List.length_eq_zero_iff.1 (by omega)
    subst this
    simp [unP, isT, primP, hdT, inP]
  | f + 1 => by
    intro lv ts hm
    rw [unP]
    by_cases hi : isT [[45], [33]] ts = true
    · rw [if_pos hi]
      have ht := tail_lt (isT_ne hi)
      by_cases hl : lv = 16
      · rw [if_pos hl]; exact .inr rfl
      · rw [if_neg hl]
        have h1 := unP_fine (E := E) f (lv + 1) ts.tail (by omega)
        cases hy : unP E (f + 1) (lv + 1) ts.tail with
        | error e => rw [hy] at h1; exact h1
        | ok y => obtain ⟨k, z⟩ := y; rw [hy] at h1; simp only at h1 ⊢; omega
    · rw [if_neg hi]
      exact primP_fine (exprOf_fine (unP_fine f)) lv ts hm
theorem exprP_fine {E : Nat} (f : Nat) : Fine f (exprP E (f + 1)) := exprOf_fine (unP_fine f)
end Go.Ev
/- Trees of programs, without any program. -/
namespace Go.Ev

end Go.Ev
/- Two operators between three names. -/
namespace Go.Ev

theorem alive6a : exprS [49, 43, 50, 42, 51] = .ok (.mk 31 0 [43] 0 0 0 0 0 [.mk 25 0 [] 0 1 0 0 0 [], .mk 31 2 [42] 0 0 0 0 0 [.mk 25 2 [] 0 2 0 0 0 [], .mk 25 4 [] 0 3 0 0 0 []]]) := by rfl
theorem alive6b : exprS [49, 60, 50, 60, 51] = .error (2, 3) := by rfl
end Go.Ev
/- Trees: how many nodes, how deep, the same. -/
namespace Go.Ev

mutual
def Nd.count : Nd → Nat
  | ⟨_, _, _, _, _, _, _, _, ks⟩ => 1 + cntL ks
def cntL : List Nd → Nat
  | [] => 0
  | k :: ks => k.count + cntL ks
end
mutual
def Nd.depth : Nd → Nat
  | ⟨_, _, _, _, _, _, _, _, ks⟩ => 1 + dptL ks
def dptL : List Nd → Nat
  | [] => 0
  | k :: ks => max k.depth (dptL ks)
end
mutual
def Nd.same : Nd → Nd → Bool
  | ⟨k, _, m, t, n, s, o, b, ks⟩, ⟨k', _, m', t', n', s', o', b', ks'⟩ => k == k' && m == m' && t == t' && n == n' && s == s' && o == o' && b == b' && sameL ks ks'
def sameL : List Nd → List Nd → Bool
  | [], [] => true
  | k :: ks, k' :: ks' => k.same k' && sameL ks ks'
  | _, _ => false
end
theorem cntL_append : ∀ (a b : List Nd), cntL (a ++ b) = cntL a + cntL b
  | [], b => by simp [cntL]
  | k :: a, b => by simp [cntL, cntL_append a b, Nat.add_assoc]
theorem cntL_take {ns : List Nd} {i : Nat} (h : i < ns.length) : cntL (ns.take (i + 1)) = cntL (ns.take i) + ns[i].count := by
  rw [List.take_succ_eq_append_getElem h, cntL_append]
  simp [cntL]
theorem cntL_le {ns : List Nd} (i : Nat) : cntL (ns.take i) ≤ cntL ns := by
  have := congrArg cntL (List.take_append_drop i ns)
  rw [cntL_append] at this
  omega
theorem count_pos (n : Nd) : 1 ≤ n.count := by cases n; simp only [Nd.count]; omega
end Go.Ev
/- Trees: counted and measured up to a bound; the same, places too. -/
namespace Go.Ev

mutual
/-- Are trees the same; places too, if that is asked? -/
def Nd.sameP (pl : Bool) : Nd → Nd → Bool
  | ⟨k, p, m, t, n, s, o, b, ks⟩, ⟨k', p', m', t', n', s', o', b', ks'⟩ => k == k' && m == m' && t == t' && n == n' && s == s' && o == o' && b == b' && (!pl || p == p') && samePL pl ks ks'
def samePL (pl : Bool) : List Nd → List Nd → Bool
  | [], [] => true
  | k :: ks, k' :: ks' => k.sameP pl k' && samePL pl ks ks'
  | _, _ => false
end
mutual
theorem sameP_refl (pl : Bool) : ∀ (n : Nd), n.sameP pl n = true
  | ⟨k, p, m, t, n, s, o, b, ks⟩ => by simp only [Nd.sameP, samePL_refl pl ks, beq_self_eq_true, Bool.or_true, Bool.and_self]
theorem samePL_refl (pl : Bool) : ∀ (n : List Nd), samePL pl n n = true
  | [] => rfl
  | k :: ks => by simp only [samePL, sameP_refl pl k, samePL_refl pl ks, Bool.and_self]
end
theorem samePL_len {pl : Bool} : ∀ {a b : List Nd}, samePL pl a b = true → a.length = b.length
  | [], [], _ => rfl
  | x :: a, y :: b, h => by simp only [samePL, Bool.and_eq_true] at h; simp [samePL_len h.2]
  | [], y :: b, h => by simp [samePL] at h
  | x :: a, [], h => by simp [samePL] at h
theorem sameP_eq (pl : Bool) (n m : Nd) : n.sameP pl m = (n.kind == m.kind && n.name == m.name && n.typ == m.typ && n.n == m.n && n.size == m.size && n.obj == m.obj && n.bits == m.bits && (!pl || n.pos == m.pos) && samePL pl n.kids m.kids) := by cases n; cases m; rfl
end Go.Ev
/- Trees of expressions: no more nodes than tokens; a node's place is a token's. -/
namespace Go.Ev

def Well (u : PT) : Prop := ∀ lv ts n r, u lv ts = .ok (n, r) → n.count + r.length ≤ ts.length ∧ r <:+ ts ∧ ∃ t ∈ ts, n.pos = (t.pos : Int)
theorem tail_suf (ts : List Tok) : ts.tail <:+ ts := List.tail_suffix ts
theorem mem_suf {r ts : List Tok} (h : r <:+ ts) {p : Int} (e : ∃ t ∈ r, p = (t.pos : Int)) : ∃ t ∈ ts, p = (t.pos : Int) := by
  obtain ⟨t, h1, h2⟩ := e
  exact ⟨t, h.subset h1, h2⟩
theorem hd_mem {E : Nat} {ts : List Tok} (h : ts ≠ []) : ∃ t ∈ ts, ((hdT E ts).pos : Int) = (t.pos : Int) := by
  cases ts with
  | nil => exact absurd rfl h
  | cons t ts => exact ⟨t, by simp, rfl⟩
theorem rowL_well {u : PT} (hu : Well u) {many : Bool} {ops : List Bs} {lv : Nat} : ∀ (f : Nat) (n : Nd) (ts : List Tok) (m : Nd) (r : List Tok), rowL u many ops lv f n ts = .ok (m, r) → m.count + r.length ≤ n.count + ts.length ∧ r <:+ ts ∧ m.pos = n.pos
  | 0, _, _, _, _, h => by cases h
  | f + 1, n, ts, m, r, h => by
    rw [rowL] at h
    by_cases hi : isT ops ts = true
    · rw [if_pos hi] at h
      have hne := tail_lt (isT_ne hi)
      cases hx : u lv ts.tail with
      | error x => rw [hx] at h; cases h
      | ok y =>
        obtain ⟨k, ts'⟩ := y
        rw [hx] at h
        obtain ⟨h1, h2, _⟩ := hu _ _ _ _ hx
        simp only at h
        have hc : (binN n (hdT 0 ts).text k).count = 1 + (n.count + (k.count + 0)) := rfl
        cases many with
        | true =>
          obtain ⟨g1, g2, g3⟩ := rowL_well hu f _ ts' m r h
          exact ⟨by omega, g2.trans (h2.trans (tail_suf ts)), g3⟩
        | false =>
          cases h
          exact ⟨by omega, h2.trans (tail_suf ts), rfl⟩
    · rw [if_neg hi] at h
      cases h
      exact ⟨Nat.le_refl _, List.suffix_refl _, rfl⟩
theorem rowP_well {u : PT} (hu : Well u) {many : Bool} {ops : List Bs} : Well (rowP many ops u) := by
  intro lv ts n r h
  unfold rowP at h
  cases hx : u lv ts with
  | error x => rw [hx] at h; cases h
  | ok y =>
    obtain ⟨k, ts'⟩ := y
    rw [hx] at h
    obtain ⟨h1, h2, h3⟩ := hu _ _ _ _ hx
    obtain ⟨g1, g2, g3⟩ := rowL_well hu _ _ _ _ _ h
    exact ⟨by omega, g2.trans h2, g3 ▸ h3⟩
theorem exprOf_well {u : PT} (hu : Well u) : Well (exprOf u) := rowP_well (rowP_well (rowP_well (rowP_well (rowP_well hu))))
theorem inP_well {E : Nat} {a b : Bs} {x : PT} (hx : Well x) {lv : Nat} {ts : List Tok} {n : Nd} {r : List Tok} (h : inP E a b x lv ts = .ok (n, r)) : n.count + r.length + 2 ≤ ts.length ∧ r <:+ ts ∧ ∃ t ∈ ts, n.pos = (t.pos : Int) := by
  unfold inP at h
  by_cases hi : isT [a] ts = true
  · rw [if_pos hi] at h
    have hne := tail_lt (isT_ne hi)
    by_cases h16 : lv = 16
    · rw [if_pos h16] at h; cases h
    · rw [if_neg h16] at h
      cases hy : x (lv + 1) ts.tail with
      | error x => rw [hy] at h; cases h
      | ok y =>
        obtain ⟨k, ts'⟩ := y
        rw [hy] at h
        obtain ⟨h1, h2, h3⟩ := hx _ _ _ _ hy
        simp only at h
        by_cases hb : isT [b] ts' = true
        · rw [if_pos hb] at h
          cases h
          have hne2 := tail_lt (isT_ne hb)
          exact ⟨by omega, (tail_suf _).trans (h2.trans (tail_suf ts)), mem_suf (tail_suf ts) h3⟩
        · rw [if_neg hb] at h; cases h
  · rw [if_neg hi] at h; cases h
theorem nameP_well {E : Nat} {x : PT} (hx : Well x) {lv : Nat} {ts : List Tok} {n : Nd} {r : List Tok} (hne : ts ≠ []) (h : nameP E x lv ts = .ok (n, r)) : n.count + r.length ≤ ts.length ∧ r <:+ ts ∧ ∃ t ∈ ts, n.pos = (t.pos : Int) := by
  have ht := tail_lt hne
  unfold nameP at h
  split at h
  · cases hy : inP E [91] [93] x lv ts.tail with
    | error x => rw [hy] at h; cases h
    | ok y =>
      obtain ⟨k, ts'⟩ := y
      rw [hy] at h
      cases h
      obtain ⟨h1, h2, _⟩ := inP_well hx hy
      refine ⟨?_, h2.trans (tail_suf ts), hd_mem hne⟩
      simp only [Nd.count, cntL]; omega
  · cases h
    refine ⟨?_, tail_suf ts, hd_mem hne⟩
    simp only [Nd.count, cntL]; omega
theorem primP_well {E : Nat} {x : PT} (hx : Well x) : Well (primP E x) := by
  intro lv ts n r h
  unfold primP at h
  by_cases hne : ts = []
  · subst hne
    simp [hdT, isT, inP] at h
  have ht := tail_lt hne
  split at h
  · cases h; refine ⟨?_, tail_suf ts, hd_mem hne⟩; simp only [Nd.count, cntL]; omega
  split at h
  · cases h; refine ⟨?_, tail_suf ts, hd_mem hne⟩; simp only [Nd.count, cntL]; omega
  split at h
  · exact nameP_well hx hne h
  split at h
  · cases h; refine ⟨?_, tail_suf ts, hd_mem hne⟩; simp only [Nd.count, cntL]; omega
  split at h
  · cases h; refine ⟨?_, tail_suf ts, hd_mem hne⟩; simp only [Nd.count, cntL]; omega
  split at h
  · cases hy : inP E [40] [41] x lv ts.tail with
    | error x => rw [hy] at h; cases h
    | ok y =>
      obtain ⟨k, ts'⟩ := y
      rw [hy] at h
      cases h
      obtain ⟨h1, h2, _⟩ := inP_well hx hy
      refine ⟨?_, h2.trans (tail_suf ts), hd_mem hne⟩
      simp only [Nd.count, cntL]; omega
  · obtain ⟨h1, h2, h3⟩ := inP_well hx h
    exact ⟨by omega, h2, h3⟩
theorem unP_well {E : Nat} : ∀ f, Well (unP E f)
  | 0 => by intro lv ts n r h; cases h
  | f + 1 => by
    intro lv ts n r h
    rw [unP] at h
    by_cases hi : isT [[45], [33]] ts = true
    · rw [if_pos hi] at h
      have hne := isT_ne hi
      have ht := tail_lt hne
      by_cases h16 : lv = 16
      · rw [if_pos h16] at h; cases h
      · rw [if_neg h16] at h
        cases hy : unP E f (lv + 1) ts.tail with
        | error x => rw [hy] at h; cases h
        | ok y =>
          obtain ⟨k, ts'⟩ := y
          rw [hy] at h
          cases h
          obtain ⟨h1, h2, _⟩ := unP_well f _ _ _ _ hy
          refine ⟨?_, h2.trans (tail_suf ts), hd_mem hne⟩
          simp only [Nd.count, cntL]; omega
    · rw [if_neg hi] at h
      exact primP_well (exprOf_well (unP_well f)) lv ts n r h
theorem toks_pos {N : Nat} : ∀ (f : Nat) (l : Bs) (n : Nat) (ts : List Tok), toksL N f l n = .ok ts → ∀ t ∈ ts, t.pos ≤ N
  | 0, _, _, _, h => by cases h
  | f + 1, l, n, ts, h => by
    simp only [toksL] at h
    split at h
    · cases h; intro t ht; cases ht
    · split at h
      · cases h
      · cases hx : nextTok N l with
        | error e => rw [hx] at h; cases h
        | ok x =>
          obtain ⟨t, r⟩ := x
          rw [hx] at h
          simp only at h
          cases hy : toksL N f (skip r) (n + 1) with
          | error e => rw [hy] at h; cases h
          | ok us =>
            rw [hy] at h
            cases h
            intro t' ht
            rcases List.mem_cons.1 ht with rfl | ht
            · have := (nextTok_ok hx).2.2; omega
            · exact toks_pos _ _ _ _ hy t' ht
theorem expr_small {s : Bs} {a : Nd} (h : exprS s = .ok a) : a.count ≤ 2000 ∧ ∃ p : Nat, a.pos = (p : Int) ∧ p ≤ 8192 := by
  unfold exprS readP at h
  cases ht : tokens s with
  | error e => rw [ht] at h; cases h
  | ok ts =>
    rw [ht] at h
    simp only at h
    have hl := tokens_len ht
    cases hx : exprP s.length (ts.length + 1) 0 ts with
    | error e => rw [hx] at h; cases h
    | ok y =>
      obtain ⟨n, r⟩ := y
      rw [hx] at h
      cases r with
      | cons t r => cases h
      | nil =>
        simp only at h
        cases h
        obtain ⟨h1, h2, t, h3, h4⟩ := exprOf_well (unP_well _) _ _ _ _ hx
        refine ⟨by omega, t.pos, h4, ?_⟩
        unfold tokens at ht
        split at ht
        · cases ht
        · have := toks_pos _ _ _ _ ht t h3
          omega
end Go.Ev
