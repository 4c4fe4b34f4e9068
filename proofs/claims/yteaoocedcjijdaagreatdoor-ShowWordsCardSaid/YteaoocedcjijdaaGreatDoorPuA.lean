/- Tokens, without any program: what the lexer computes. -/
set_option linter.all false
set_option linter.unusedVariables false
set_option linter.unusedSimpArgs false
namespace Go.Ev

def isDigit (c : UInt8) : Bool := decide (48 ≤ c.toNat) && decide (c.toNat ≤ 57)
def isLetter (c : UInt8) : Bool := (decide (97 ≤ c.toNat) && decide (c.toNat ≤ 122)) || (decide (65 ≤ c.toNat) && decide (c.toNat ≤ 90)) || decide (c.toNat = 95)
def isWord (c : UInt8) : Bool := isLetter c || isDigit c
def isBlank (c : UInt8) : Bool := decide (c.toNat = 32) || decide (c.toNat = 9) || decide (c.toNat = 10) || decide (c.toNat = 13)
def notNL (c : UInt8) : Bool := !decide (c.toNat = 10)

abbrev Bs := List UInt8

/-- A token: kind, text, its int, its bits, its place. -/
structure Tok where
  kind : Nat
  text : Bs
  n : Nat
  bits : Nat
  pos : Nat
  deriving DecidableEq, Inhabited

abbrev Err := Nat × Nat

def keys : List Bs := [[97, 100, 100], [97, 116, 111, 109, 105, 99], [98, 111, 111, 108], [99, 104, 97, 110], [101, 108, 115, 101], [102, 97, 105, 108], [102, 97, 108, 115, 101], [102, 108, 111, 97, 116], [102, 117, 110, 99], [103, 101, 116], [103, 111], [105, 102], [105, 110, 116], [108, 111, 99, 107], [109, 117, 116, 101, 120], [112, 117, 116], [114, 101, 99, 118], [114, 101, 116, 117, 114, 110], [115, 101, 110, 100], [116, 114, 117, 101], [117, 110, 108, 111, 99, 107], [118, 97, 114], [119, 104, 105, 108, 101]]
def marks2 : List Bs := [[58, 61], [61, 61], [33, 61], [60, 61], [62, 61], [38, 38], [124, 124]]
def marks1 : Bs := [43, 45, 42, 47, 37, 60, 62, 61, 33, 40, 41, 123, 125, 91, 93, 44, 59]
def hexs : Bs := [48, 49, 50, 51, 52, 53, 54, 55, 56, 57, 97, 98, 99, 100, 101, 102]

/-- Where a byte stands in a text: -1, if it doesn't. -/
def findB (c : Nat) : Bs → Nat → Int
  | [], _ => -1
  | x :: r, i => bif x.toNat.beq c then i else findB c r (i + 1)

def hasP (a b : Bs) : Bool := a.take b.length == b

def skip1 (l : Bs) : Bs :=
  let l1 := l.dropWhile isBlank
  if hasP l1 [47, 47] then l1.dropWhile notNL else l1
def skipL : Nat → Bs → Bs
  | 0, l => l
  | n + 1, l => if (skip1 l).length = l.length then l else skipL n (skip1 l)
def skip (l : Bs) : Bs := skipL l.length l

def headB (p : UInt8 → Bool) : Bs → Bool
  | c :: _ => p c
  | [] => false
def aloneE (N : Nat) (l : Bs) (x : Tok) : Except Err (Tok × Bs) :=
  if headB isWord l then .error (2, N - l.length) else .ok (x, l)
def wordTok (N : Nat) (l : Bs) : Except Err (Tok × Bs) :=
  let t := l.takeWhile isWord
  if 24 < t.length then .error (6, N - l.length) else .ok (⟨if keys.contains t then 2 else 1, t, 0, 0, N - l.length⟩, l.dropWhile isWord)
def decVal (t : Bs) : Nat := t.foldl (fun v c => 10 * v + (c.toNat - 48)) 0
def numTok (N : Nat) (l : Bs) : Except Err (Tok × Bs) :=
  let zero := match l with | c :: _ => decide (c.toNat = 48) | [] => false
  let t := if zero then [48] else l.takeWhile isDigit
  let r := if zero then l.drop 1 else l.dropWhile isDigit
  if decVal t < 2 ^ 63 then aloneE N r ⟨3, t, decVal t, 0, N - l.length⟩ else .error (1, N - l.length)
def hexVal (t : Bs) : Nat := t.foldl (fun v c => (16 * v % 2 ^ 64) ||| (findB c.toNat hexs 0).toNat) 0
def isHex (c : UInt8) : Bool := decide (0 ≤ findB c.toNat hexs 0)
def fltTok (N : Nat) (l : Bs) : Except Err (Tok × Bs) :=
  let d := (l.drop 1).take 16
  if d.length = 16 ∧ d.all isHex = true then aloneE N (l.drop 17) ⟨4, l.take 17, 0, hexVal d, N - l.length⟩ else .error (2, N - l.length)
def markTok (N : Nat) (l : Bs) : Except Err (Tok × Bs) :=
  if marks2.any (hasP l) then .ok (⟨5, l.take 2, 0, 0, N - l.length⟩, l.drop 2)
  else match l with
    | c :: r => if 0 ≤ findB c.toNat marks1 0 then .ok (⟨5, [c], 0, 0, N - l.length⟩, r) else .error (2, N - l.length)
    | [] => .error (2, N)
def nextTok (N : Nat) (l : Bs) : Except Err (Tok × Bs) :=
  match l with
  | c :: _ => if isLetter c then wordTok N l else if isDigit c then numTok N l else if c.toNat = 35 then fltTok N l else markTok N l
  | [] => .error (2, N)

/-- Tokens from a place on at which a token begins; so many are there already. -/
def toksL (N : Nat) : Nat → Bs → Nat → Except Err (List Tok)
  | 0, _, _ => .error (0, 0)
  | f + 1, l, n =>
    if l = [] then .ok []
    else if n = 2000 then .error (6, N - l.length)
    else match nextTok N l with
      | .error e => .error e
      | .ok (t, r) => match toksL N f (skip r) (n + 1) with
        | .error e => .error e
        | .ok ts => .ok (t :: ts)
def tokens (s : Bs) : Except Err (List Tok) :=
  if 8192 < s.length then .error (6, 0) else toksL s.length (s.length + 1) (skip s) 0

end Go.Ev
/- Tokens, without any program: what a token's reading takes. -/
namespace Go.Ev

theorem takeWhile_ne {p : UInt8 → Bool} {c : UInt8} {l : Bs} (h : p c = true) : (c :: l).takeWhile p ≠ [] := by
  rw [List.takeWhile_cons, if_pos h]; exact List.cons_ne_nil _ _
theorem aloneE_ok {N : Nat} {l r : Bs} {x t : Tok} (h : aloneE N l x = .ok (t, r)) : t = x ∧ r = l ∧ headB isWord l = false := by
  unfold aloneE at h
  split at h
  · cases h
  · rename_i hw
    cases h
    exact ⟨rfl, rfl, by simpa using hw⟩

def numZero (l : Bs) : Bool := match l with | c :: _ => decide (c.toNat = 48) | [] => false
def numText (l : Bs) : Bs := if numZero l then [48] else l.takeWhile isDigit
def numRest (l : Bs) : Bs := if numZero l then l.drop 1 else l.dropWhile isDigit
theorem numTok_eq (N : Nat) (l : Bs) : numTok N l = if decVal (numText l) < 2 ^ 63 then aloneE N (numRest l) ⟨3, numText l, decVal (numText l), 0, N - l.length⟩ else .error (1, N - l.length) := rfl
theorem nextTok_ok {N : Nat} {l r : Bs} {t : Tok} (h : nextTok N l = .ok (t, r)) : l = t.text ++ r ∧ t.text ≠ [] ∧ t.pos = N - l.length := by
  cases l with
  | nil => cases h
  | cons c l =>
    simp only [nextTok] at h
    split at h
    · rename_i hc
      simp only [wordTok] at h
      split at h
      · cases h
      · cases h
        refine ⟨(List.takeWhile_append_dropWhile).symm, ?_, rfl⟩
        exact takeWhile_ne (by simp [isWord, hc])
    · split at h
      · rename_i hc
        rw [numTok_eq] at h
        split at h
        · obtain ⟨rfl, rfl, _⟩ := aloneE_ok h
          simp only [numText, numRest, numZero]
          by_cases hz : c.toNat = 48
          · have hc48 : c = 48 := by
              apply UInt8.toNat_inj.1; rw [hz]; rfl
            simp [hc48]
          · simp only [hz, decide_false, Bool.false_eq_true, if_false]
            exact ⟨(List.takeWhile_append_dropWhile).symm, takeWhile_ne hc, trivial⟩
        · cases h
      · split at h
        · simp only [fltTok] at h
          split at h
          · rename_i hd
            obtain ⟨rfl, rfl, _⟩ := aloneE_ok h
            refine ⟨(List.take_append_drop 17 _).symm, ?_, rfl⟩
            simp
          · cases h
        · simp only [markTok] at h
          split at h
          · cases h
            exact ⟨(List.take_append_drop 2 _).symm, by simp, rfl⟩
          · split at h
            · cases h
              exact ⟨rfl, List.cons_ne_nil _ _, rfl⟩
            · cases h
theorem nextTok_len {N : Nat} {l r : Bs} {t : Tok} (h : nextTok N l = .ok (t, r)) : r.length < l.length := by
  obtain ⟨h1, h2, _⟩ := nextTok_ok h
  rw [h1, List.length_append]
  have := List.length_pos_iff.2 h2
  omega
end Go.Ev
/- Trees of expressions, without any program. -/
namespace Go.Ev

/-- A node of a tree. -/
inductive Nd where
  | mk (kind pos : Int) (name : Bs) (typ n size obj bits : Int) (kids : List Nd)
def Nd.kind : Nd → Int | ⟨k, _, _, _, _, _, _, _, _⟩ => k
def Nd.pos : Nd → Int | ⟨_, k, _, _, _, _, _, _, _⟩ => k
def Nd.name : Nd → Bs | ⟨_, _, k, _, _, _, _, _, _⟩ => k
def Nd.typ : Nd → Int | ⟨_, _, _, k, _, _, _, _, _⟩ => k
def Nd.n : Nd → Int | ⟨_, _, _, _, k, _, _, _, _⟩ => k
def Nd.size : Nd → Int | ⟨_, _, _, _, _, k, _, _, _⟩ => k
def Nd.obj : Nd → Int | ⟨_, _, _, _, _, _, k, _, _⟩ => k
def Nd.bits : Nd → Int | ⟨_, _, _, _, _, _, _, k, _⟩ => k
def Nd.kids : Nd → List Nd | ⟨_, _, _, _, _, _, _, _, k⟩ => k

end Go.Ev
/- Which texts are names: by the lexer, and by their characters. -/
namespace Go.Ev

/-- A text whose tokens are one: a name, the text itself. -/
def wordB (s : Bs) : Bool := match tokens s with
  | .ok [t] => ((t.kind : Int) == 1) && (t.text == s)
  | _ => false
/-- All characters of a name, from so far on. -/
def wchars : Nat → Bs → Bool
  | _, [] => true
  | i, c :: r => (isLetter c || (decide (0 < i) && isDigit c)) && wchars (i + 1) r
def rwordB (s : Bs) : Bool := wchars 0 s && decide (1 ≤ s.length) && decide (s.length ≤ 24) && !keys.contains s

theorem wchars_pos : ∀ (l : Bs) (i : Nat), 0 < i → wchars i l = l.all isWord
  | [], _, _ => rfl
  | c :: r, i, h => by
    simp only [wchars, List.all_cons, wchars_pos r (i + 1) (by omega), decide_eq_true h, Bool.true_and, isWord]
theorem w_twall {p : UInt8 → Bool} : ∀ {l : Bs}, l.all p = true → l.takeWhile p = l ∧ l.dropWhile p = []
  | [], _ => ⟨rfl, rfl⟩
  | c :: r, h => by
    simp only [List.all_cons, Bool.and_eq_true] at h
    obtain ⟨h1, h2⟩ := w_twall h.2
    exact ⟨by rw [List.takeWhile_cons, if_pos h.1, h1], by rw [List.dropWhile_cons, if_pos h.1, h2]⟩
theorem mem_tw {p : UInt8 → Bool} : ∀ {l : Bs} {x : UInt8}, x ∈ l.takeWhile p → p x = true
  | [], x, h => by simp at h
  | c :: r, x, h => by
    rw [List.takeWhile_cons] at h
    split at h
    · rename_i hc
      rcases List.mem_cons.1 h with rfl | h
      · exact hc
      · exact mem_tw h
    · simp at h
theorem skip1_letter {c : UInt8} {r : Bs} (hc : isLetter c = true) : skip1 (c :: r) = c :: r := by
  have hb : isBlank c = false := by
    simp only [isLetter, isBlank, Bool.or_eq_true, Bool.and_eq_true, decide_eq_true_eq, Bool.or_eq_false_iff, decide_eq_false_iff_not] at hc ⊢
    omega
  have hp : hasP (c :: r) [47, 47] = false := by
    unfold hasP
    have : ¬ c = 47 := fun e => by subst e; revert hc; decide
    cases r with
    | nil => simp
    | cons d r => simp [this]
  unfold skip1
  simp only [List.dropWhile_cons, hb, Bool.false_eq_true, if_false, hp]
theorem skip_letter {c : UInt8} {r : Bs} (hc : isLetter c = true) : skip (c :: r) = c :: r := by
  unfold skip
  simp only [List.length_cons, skipL, skip1_letter hc, if_true]
theorem w_skipnil : skip [] = [] := rfl
theorem w_dwlen {p : UInt8 → Bool} : ∀ (l : Bs), (l.dropWhile p).length ≤ l.length
  | [] => Nat.le_refl _
  | c :: r => by
    rw [List.dropWhile_cons]
    split
    · have := w_dwlen (p := p) r
      simp only [List.length_cons]; omega
    · exact Nat.le_refl _
theorem w_skip1 (l : Bs) : (skip1 l).length ≤ l.length := by
  unfold skip1
  simp only
  split
  · exact Nat.le_trans (w_dwlen _) (w_dwlen _)
  · exact w_dwlen _
theorem w_skipL : ∀ (n : Nat) (l : Bs), (skipL n l).length ≤ l.length
  | 0, l => Nat.le_refl _
  | n + 1, l => by
    simp only [skipL]
    split
    · exact Nat.le_refl _
    · exact Nat.le_trans (w_skipL n _) (w_skip1 l)
theorem w_skip (l : Bs) : (skip l).length ≤ l.length := w_skipL _ _
theorem w_next1 {N : Nat} {l r : Bs} {t : Tok} (h : nextTok N l = .ok (t, r)) (hk : t.kind = 1) : headB isLetter l = true ∧ (l.takeWhile isWord).length ≤ 24 ∧ keys.contains (l.takeWhile isWord) = false ∧ t.text = l.takeWhile isWord ∧ r = l.dropWhile isWord := by
  cases l with
  | nil => cases h
  | cons c l =>
    simp only [nextTok] at h
    split at h
    · rename_i hc
      simp only [wordTok] at h
      split at h
      · cases h
      · rename_i hl
        cases h
        refine ⟨hc, by omega, ?_, rfl, rfl⟩
        simp only at hk
        cases e : keys.contains ((c :: l).takeWhile isWord) with
        | false => rfl
        | true => rw [e] at hk; simp at hk
    · exfalso
      split at h
      · rw [numTok_eq] at h
        split at h
        · obtain ⟨rfl, _, _⟩ := aloneE_ok h
          simp at hk
        · cases h
      · split at h
        · simp only [fltTok] at h
          split at h
          · obtain ⟨rfl, _, _⟩ := aloneE_ok h
            simp at hk
          · cases h
        · simp only [markTok] at h
          split at h
          · cases h; simp at hk
          · split at h
            · cases h; simp at hk
            · cases h
theorem w_toks1 {N f n : Nat} {l : Bs} {t : Tok} (h : toksL N f l n = .ok [t]) : ∃ r, nextTok N l = .ok (t, r) := by
  cases f with
  | zero => cases h
  | succ f =>
    simp only [toksL] at h
    split at h
    · cases h
    · split at h
      · cases h
      · split at h
        · cases h
        · rename_i t' r hq
          split at h
          · cases h
          · rename_i ts hts
            simp only [Except.ok.injEq, List.cons.injEq] at h
            obtain ⟨rfl, rfl⟩ := h
            exact ⟨r, hq⟩

theorem wordB_eq (s : Bs) : wordB s = rwordB s := by
  rw [Bool.eq_iff_iff]
  constructor
  · intro h
    unfold wordB at h
    split at h
    · rename_i t ht
      simp only [Bool.and_eq_true, beq_iff_eq] at h
      obtain ⟨hk, htx⟩ := h
      replace hk : t.kind = 1 := by omega
      unfold tokens at ht
      split at ht
      · cases ht
      · obtain ⟨r, hn⟩ := w_toks1 ht
        obtain ⟨g1, g2, g3, g4, g5⟩ := w_next1 hn hk
        have hlen := w_skip s
        have hsplit : skip s = s ++ r := by
          conv => lhs; rw [← List.takeWhile_append_dropWhile (p := isWord) (l := skip s)]
          rw [← g4, ← g5, htx]
        have hr : r = [] := by
          have := congrArg List.length hsplit
          rw [List.length_append] at this
          exact List.length_eq_zero_iff.1 (by omega)
        subst hr
        rw [List.append_nil] at hsplit
        rw [hsplit] at g1 g2 g3 g4 g5
        rw [htx] at g4
        rw [← g4] at g2 g3
        cases s with
        | nil => cases g1
        | cons c r =>
          have hall : (c :: r).all isWord = true := by
            rw [List.all_eq_true]
            intro x hx
            have h4 : (c :: r) = (c :: r).takeWhile isWord := g4
            rw [h4] at hx
            exact mem_tw hx
          simp only [List.all_cons, Bool.and_eq_true] at hall
          simp only [rwordB, wchars, wchars_pos r 1 (by omega), Bool.and_eq_true, Bool.or_eq_true, decide_eq_true_eq, List.length_cons, Bool.not_eq_true']
          have g1' : isLetter c = true := g1
          exact ⟨⟨⟨⟨.inl g1', hall.2⟩, by omega⟩, g2⟩, g3⟩
    · cases h
  · intro h
    cases s with
    | nil => simp [rwordB] at h
    | cons c r =>
      simp only [rwordB, wchars, wchars_pos r 1 (by omega), Bool.and_eq_true, Bool.or_eq_true, decide_eq_true_eq, List.length_cons, Bool.not_eq_true'] at h
      obtain ⟨⟨⟨⟨h1, h2⟩, _⟩, h3⟩, h4⟩ := h
      have hc : isLetter c = true := by
        rcases h1 with h1 | h1
        · exact h1
        · exact absurd h1.1 (by omega)
      have hall : (c :: r).all isWord = true := by
        simp only [List.all_cons, Bool.and_eq_true]
        exact ⟨by simp [isWord, hc], h2⟩
      obtain ⟨t1, t2⟩ := w_twall hall
      have hn : nextTok (r.length + 1) (c :: r) = .ok (⟨1, c :: r, 0, 0, 0⟩, []) := by
        simp only [nextTok, hc, if_true, wordTok, t1, t2, h4]
        rw [if_neg (by simp only [List.length_cons]; omega)]
        simp
      unfold wordB tokens
      rw [if_neg (by simp only [List.length_cons]; omega), skip_letter hc]
      simp only [List.length_cons, toksL, hn, w_skipnil]
      simp
end Go.Ev
/- Trees: how many nodes, how deep, the same. -/
namespace Go.Ev

mutual
def Nd.count : Nd → Nat
  | ⟨_, _, _, _, _, _, _, _, ks⟩ => 1 + cntL ks
def cntL : List Nd → Nat
  | [] => 0
  | k :: ks => k.count + cntL ks
end
mutual
def Nd.depth : Nd → Nat
  | ⟨_, _, _, _, _, _, _, _, ks⟩ => 1 + dptL ks
def dptL : List Nd → Nat
  | [] => 0
  | k :: ks => max k.depth (dptL ks)
end
mutual
def Nd.same : Nd → Nd → Bool
  | ⟨k, _, m, t, n, s, o, b, ks⟩, ⟨k', _, m', t', n', s', o', b', ks'⟩ => k == k' && m == m' && t == t' && n == n' && s == s' && o == o' && b == b' && sameL ks ks'
def sameL : List Nd → List Nd → Bool
  | [], [] => true
  | k :: ks, k' :: ks' => k.same k' && sameL ks ks'
  | _, _ => false
end
end Go.Ev
/- Forms of trees: which are expressions, statements, programs. -/
namespace Go.Ev

/-- Are a node's fields those? -/
def bareB (n : Nd) (nm : Bs) (t k bits : Int) : Bool := (n.name == nm) && (n.typ == t) && (n.n == k) && (n.size == 0) && (n.obj == 0) && (n.bits == bits)

end Go.Ev
