/- Tokens, without any program: what the lexer computes. -/
set_option linter.all false
set_option linter.unusedVariables false
set_option linter.unusedSimpArgs false
namespace Go.Ev

def isBlank (c : UInt8) : Bool := decide (c.toNat = 32) || decide (c.toNat = 9) || decide (c.toNat = 10) || decide (c.toNat = 13)
def notNL (c : UInt8) : Bool := !decide (c.toNat = 10)

abbrev Bs := List UInt8

/-- A token: kind, text, its int, its bits, its place. -/
structure Tok where
  kind : Nat
  text : Bs
  n : Nat
  bits : Nat
  pos : Nat
  deriving DecidableEq, Inhabited

def hasP (a b : Bs) : Bool := a.take b.length == b

def skip1 (l : Bs) : Bs :=
  let l1 := l.dropWhile isBlank
  if hasP l1 [47, 47] then l1.dropWhile notNL else l1
def skipL : Nat → Bs → Bs
  | 0, l => l
  | n + 1, l => if (skip1 l).length = l.length then l else skipL n (skip1 l)
def skip (l : Bs) : Bs := skipL l.length l

end Go.Ev
/- Codes of instructions and the stacks at them, without any program. -/
namespace Go.Ev

structure Ins where
  op : Int
  a : Int
  b : Int
  bits : Int
  pos : Int
structure En where
  start : Int
  params : Int
  locals : List Int
structure Cd where
  places : List Int
  mutexes : Int
  atomics : Int
  chans : List (Int × Int)
  funcs : List En
  main : Int
  body : List Ins

def inside (n a b : Int) : Bool := decide (a ≤ n) && decide (n ≤ b)
def typB (t : Int) : Bool := inside t 1 3
def enOk (nb last : Int) (first : Bool) (f : En) : Bool :=
  decide (last < f.start) && (!first || f.start == 0) && decide (f.start < nb) && inside f.params 0 (min 4 (f.locals.length : Int)) && decide ((f.locals.length : Int) ≤ 32) && f.locals.all typB
def ensOk (nb : Int) : Int → Bool → List En → Bool
  | _, _, [] => true
  | last, first, f :: l => enOk nb last first f && ensOk nb f.start false l
/-- All but the instructions. -/
def headOk (c : Cd) : Bool :=
  decide ((c.places.length : Int) ≤ 128) && inside c.mutexes 0 32 && inside c.atomics 0 32 && decide (c.mutexes + c.atomics + c.chans.length ≤ 32) && decide ((c.funcs.length : Int) ≤ 16) && decide ((c.body.length : Int) ≤ 8192) && inside c.main 0 ((c.funcs.length : Int) - 1) && ((c.funcs.getD c.main.toNat ⟨0, 0, []⟩).params == 0)
def shapeB (c : Cd) : Bool :=
  headOk c && c.chans.all (fun x => typB x.1 && inside x.2 0 8) && ensOk c.body.length (-1) true c.funcs && c.places.all typB
def unaryL : List Bs := [[], [45], [33], [105, 110, 116], [102, 108, 111, 97, 116]]
def binaryL : List Bs := [[], [43], [45], [42], [47], [37], [61, 61], [33, 61], [60], [60, 61], [62], [62, 61]]
/-- The operator of a number. -/
def opName (op a : Int) : Bs := if a < 0 then [] else (if op = 10 then unaryL else if op = 11 then binaryL else []).getD a.toNat []
def arrayB (c : Cd) (first size : Int) : Bool :=
  inside size 1 64 && inside first 0 ((c.places.length : Int) - size) && ((c.places.drop first.toNat).take size.toNat).all (fun t => t == c.places.getD first.toNat 0)
/-- What an instruction must be, but its place. -/
def insB (c : Cd) (x : Ins) : Bool :=
  if x.op = 1 then decide (0 ≤ x.a) && x.b == 0 && x.bits == 0
  else if x.op = 2 then x.a == 0 && x.b == 0
  else if x.op = 3 then inside x.a 0 1 && x.b == 0 && x.bits == 0
  else if x.op = 4 ∨ x.op = 5 then inside x.a 0 31 && x.b == 0 && x.bits == 0
  else if x.op = 6 ∨ x.op = 7 then inside x.a 0 ((c.places.length : Int) - 1) && x.b == 0 && x.bits == 0
  else if x.op = 8 ∨ x.op = 9 then arrayB c x.a x.b && x.bits == 0
  else if x.op = 10 ∨ x.op = 11 then !(opName x.op x.a).isEmpty && x.b == 0 && x.bits == 0
  else if x.op = 12 then inside x.a 0 ((c.body.length : Int) - 1) && x.b == 0 && x.bits == 0
  else if x.op = 13 ∨ x.op = 14 then inside x.a 0 ((c.body.length : Int) - 1) && inside x.b 0 1 && x.bits == 0
  else if x.op = 15 ∨ x.op = 16 then inside x.a 0 (c.mutexes - 1) && x.b == 0 && x.bits == 0
  else if x.op = 17 ∨ x.op = 18 then inside x.a 0 ((c.chans.length : Int) - 1) && x.b == 0 && x.bits == 0
  else if x.op = 19 ∨ x.op = 20 ∨ x.op = 21 then inside x.a 0 (c.atomics - 1) && x.b == 0 && x.bits == 0
  else if x.op = 22 ∨ x.op = 23 then inside x.a 0 ((c.funcs.length : Int) - 1) && x.b == 0 && x.bits == 0
  else if x.op = 24 ∨ x.op = 25 ∨ x.op = 26 then x.a == 0 && x.b == 0 && x.bits == 0
  else false
def insOk (c : Cd) (x : Ins) : Bool := inside x.pos 0 8192 && insB c x
def formB (c : Cd) : Bool := shapeB c && c.body.all (insOk c)

/-- Types off a stack; one more; the top ones. -/
def popP (s types : List Int) : Option (List Int) := if types.length ≤ s.length ∧ s.drop (s.length - types.length) = types then some (s.take (s.length - types.length)) else none
def pushP (s : List Int) (t : Int) : Option (List Int) := if s.length < 64 then some (s ++ [t]) else none
def topP (s : List Int) (n : Nat) : Option (List Int) := if n ≤ s.length then some (s.drop (s.length - n)) else none
def numT (t : Int) : Bool := t == 1 || t == 2
/-- The type that an operator gives. -/
def operP (x : Ins) (types : List Int) : Option Int :=
  let t := types.getD 0 0
  if types.length = 1 ∨ types.getD 1 0 = t then
    let o := opName x.op x.a
    if x.op = 10 ∧ o = [45] then (if numT t then some t else none)
    else if x.op = 10 ∧ o = [33] then (if t = 3 then some t else none)
    else if o = [105, 110, 116] then (if t = 2 then some 1 else none)
    else if o = [102, 108, 111, 97, 116] then (if t = 1 then some 2 else none)
    else if o = [37] then (if t = 1 then some t else none)
    else if o = [61, 61] ∨ o = [33, 61] then some 3
    else if o = [60] ∨ o = [60, 61] ∨ o = [62] ∨ o = [62, 61] then (if numT t then some 3 else none)
    else (if numT t then some t else none)
  else none
/-- The stack behind an instruction. -/
def doesP (c : Cd) (f : En) (x : Ins) (s : List Int) : Option (List Int) :=
  if x.op = 1 ∨ x.op = 2 ∨ x.op = 3 then pushP s x.op
  else if x.op = 4 then (if x.a < f.locals.length then pushP s (f.locals.getD x.a.toNat 0) else none)
  else if x.op = 5 then (if x.a < f.locals.length then popP s [f.locals.getD x.a.toNat 0] else none)
  else if x.op = 6 then pushP s (c.places.getD x.a.toNat 0)
  else if x.op = 7 then popP s [c.places.getD x.a.toNat 0]
  else if x.op = 8 then (popP s [1]).bind fun s => pushP s (c.places.getD x.a.toNat 0)
  else if x.op = 9 then popP s [1, c.places.getD x.a.toNat 0]
  else if x.op = 10 ∨ x.op = 11 then (topP s (x.op - 9).toNat).bind fun ts => (popP s ts).bind fun s => (operP x ts).bind fun t => pushP s t
  else if x.op = 17 then popP s [(c.chans.getD x.a.toNat (0, 0)).1]
  else if x.op = 18 then pushP s (c.chans.getD x.a.toNat (0, 0)).1
  else if x.op = 19 then pushP s 1
  else if x.op = 20 ∨ x.op = 21 ∨ x.op = 26 then popP s [1]
  else if x.op = 22 ∨ x.op = 23 then popP s ((c.funcs.getD x.a.toNat ⟨0, 0, []⟩).locals.take (c.funcs.getD x.a.toNat ⟨0, 0, []⟩).params.toNat)
  else if x.op = 25 then (if s = [] then some s else none)
  else some s
/-- What is known: of each instruction its stack, if it was come to. -/
abbrev Kn := List (Option (List Int))
def zIns : Ins := ⟨0, 0, 0, 0, 0⟩
def comeP (c : Cd) (fn : En) (st en : Int) : Nat → Int → List Int → Kn → Option Kn
  | 0, _, _, _ => none
  | f + 1, at_, s, k =>
    if st ≤ at_ ∧ at_ < en then
      match k.getD at_.toNat none with
      | some s' => if s' = s then some k else none
      | none =>
        let k1 := k.set at_.toNat (some s)
        let x := c.body.getD at_.toNat zIns
        if (x.op = 12 ∨ x.op = 13 ∨ x.op = 14) ∧ ¬ (at_ < x.a ∨ (c.body.getD x.a.toNat zIns).op = 24) then none
        else if x.op = 12 then comeP c fn st en f x.a s k1
        else if x.op = 13 then (popP s [3]).bind fun s => (comeP c fn st en f x.a s k1).bind fun k => comeP c fn st en f (at_ + 1) s k
        else if x.op = 14 then (comeP c fn st en f x.a s k1).bind fun k => (popP s [3]).bind fun s => comeP c fn st en f (at_ + 1) s k
        else (doesP c fn x s).bind fun s => if x.op = 25 ∨ x.op = 26 then some k1 else comeP c fn st en f (at_ + 1) s k1
    else none
def funcsP (c : Cd) : List En → Kn → Option Kn
  | [], k => some k
  | f :: l, k => (comeP c f f.start (match l with | [] => c.body.length | g :: _ => g.start) (c.body.length + 1) f.start [] k).bind (funcsP c l)
def stacksP (c : Cd) : Option (List (List Int)) :=
  if formB c then (funcsP c c.funcs (List.replicate c.body.length none)).map fun k => k.map fun x => x.getD [] else none
end Go.Ev
/- Coming to instructions: how many are left. -/
namespace Go.Ev

/-- How many were not come to. -/
def left (k : Kn) : Nat := k.countP fun x => x.isNone
theorem left_set {k : Kn} {n : Nat} {s : List Int} (h : k[n]? = some none) : left (k.set n (some s)) + 1 = left k := by
  induction k generalizing n with
  | nil => simp at h
  | cons x k ih =>
    cases n with
    | zero =>
      simp at h
      subst h
      simp [left]
    | succ n =>
      have := ih (n := n) (by simpa using h)
      simp only [left] at this ⊢
      rw [List.set_cons_succ, List.countP_cons, List.countP_cons]
      omega
theorem getD_none {k : Kn} {n : Nat} (hn : n < k.length) (h : k.getD n none = none) : k[n]? = some none := by
  rw [List.getD_eq_getElem?_getD, List.getElem?_eq_getElem hn] at h
  rw [List.getElem?_eq_getElem hn]
  simpa using h
theorem comeP_left {c : Cd} {fn : En} {st en : Int} : ∀ (f : Nat) {at_ : Int} {s : List Int} {k k' : Kn}, (k.length : Int) ≥ en → 0 ≤ st → comeP c fn st en f at_ s k = some k' → k'.length = k.length ∧ left k' ≤ left k
  | 0, _, _, _, _, _, _, h => by cases h
  | f + 1, at_, s, k, k', he, h0, h => by
    rw [comeP] at h
    split at h
    · rename_i hin
      obtain ⟨n, rfl⟩ := Int.eq_ofNat_of_zero_le (show 0 ≤ at_ by omega)
      rw [Int.toNat_natCast] at h
      have hn : n < k.length := by omega
      split at h
      · split at h
        · cases h; exact ⟨rfl, Nat.le_refl _⟩
        · cases h
      · rename_i hk
        have hl := left_set (s := s) (getD_none hn hk)
        have he1 : ((k.set n (some s)).length : Int) ≥ en := by simpa using he
        simp only at h
        split at h
        · cases h
        split at h
        · have := comeP_left f he1 h0 h
          simp at this; omega
        split at h
        · cases hp : popP s [3] with
          | none => rw [hp] at h; cases h
          | some s1 =>
            rw [hp] at h
            simp only [Option.bind_some] at h
            cases hc : comeP c fn st en f (c.body.getD n zIns).a s1 (k.set n (some s)) with
            | none => rw [hc] at h; cases h
            | some k2 =>
              rw [hc] at h
              simp only [Option.bind_some] at h
              have a1 := comeP_left f he1 h0 hc
              simp at a1
              have a2 := comeP_left f (by rw [a1.1]; exact he) h0 h
              omega
        split at h
        · cases hc : comeP c fn st en f (c.body.getD n zIns).a s (k.set n (some s)) with
          | none => rw [hc] at h; cases h
          | some k2 =>
            rw [hc] at h
            simp only [Option.bind_some] at h
            cases hp : popP s [3] with
            | none => rw [hp] at h; cases h
            | some s1 =>
              rw [hp] at h
              simp only [Option.bind_some] at h
              have a1 := comeP_left f he1 h0 hc
              simp at a1
              have a2 := comeP_left f (by rw [a1.1]; exact he) h0 h
              omega
        · cases hd : doesP c fn (c.body.getD n zIns) s with
          | none => rw [hd] at h; cases h
          | some s1 =>
            rw [hd] at h
            simp only [Option.bind_some] at h
            split at h
            · cases h
              simp; omega
            · have a1 := comeP_left f he1 h0 h
              simp at a1
              omega
    · cases h
/-- Where the next function begins. -/
def nextSt (c : Cd) : List En → Int
  | [] => c.body.length
  | g :: _ => g.start
theorem funcsP_cons {c : Cd} {f : En} {l : List En} {k : Kn} : funcsP c (f :: l) k = (comeP c f f.start (nextSt c l) (c.body.length + 1) f.start [] k).bind fun k => funcsP c l k := by
  cases l <;> rfl
theorem push_len {s s' : List Int} {t : Int} (h : pushP s t = some s') : s'.length ≤ 64 := by
  unfold pushP at h
  split at h
  · cases h; simp only [List.length_append, List.length_cons, List.length_nil]; omega
  · cases h
theorem pop_len {s s' m : List Int} (h : popP s m = some s') : s'.length ≤ s.length := by
  unfold popP at h
  split at h
  · cases h; rw [List.length_take]; omega
  · cases h
theorem does_len {c : Cd} {fn : En} {x : Ins} {s s' : List Int} (hs : s.length ≤ 64) (h : doesP c fn x s = some s') : s'.length ≤ 64 := by
  unfold doesP at h
  by_cases g : x.op = 1 ∨ x.op = 2 ∨ x.op = 3
  · rw [if_pos g] at h
    exact push_len h
  rw [if_neg g] at h
  clear g
  by_cases g : x.op = 4
  · rw [if_pos g] at h
    by_cases q : x.a < fn.locals.length
    · rw [if_pos q] at h; exact push_len h
    · rw [if_neg q] at h; cases h
  rw [if_neg g] at h
  clear g
  by_cases g : x.op = 5
  · rw [if_pos g] at h
    by_cases q : x.a < fn.locals.length
    · rw [if_pos q] at h; exact Nat.le_trans (pop_len h) hs
    · rw [if_neg q] at h; cases h
  rw [if_neg g] at h
  clear g
  by_cases g : x.op = 6
  · rw [if_pos g] at h
    exact push_len h
  rw [if_neg g] at h
  clear g
  by_cases g : x.op = 7
  · rw [if_pos g] at h
    exact Nat.le_trans (pop_len h) hs
  rw [if_neg g] at h
  clear g
  by_cases g : x.op = 8
  · rw [if_pos g] at h
    obtain ⟨s1, _, h2⟩ := Option.bind_eq_some_iff.1 h
    exact push_len h2
  rw [if_neg g] at h
  clear g
  by_cases g : x.op = 9
  · rw [if_pos g] at h
    exact Nat.le_trans (pop_len h) hs
  rw [if_neg g] at h
  clear g
  by_cases g : x.op = 10 ∨ x.op = 11
  · rw [if_pos g] at h
    obtain ⟨s1, _, h2⟩ := Option.bind_eq_some_iff.1 h
    obtain ⟨s2, _, h3⟩ := Option.bind_eq_some_iff.1 h2
    obtain ⟨s3, _, h4⟩ := Option.bind_eq_some_iff.1 h3
    exact push_len h4
  rw [if_neg g] at h
  clear g
  by_cases g : x.op = 17
  · rw [if_pos g] at h
    exact Nat.le_trans (pop_len h) hs
  rw [if_neg g] at h
  clear g
  by_cases g : x.op = 18
  · rw [if_pos g] at h
    exact push_len h
  rw [if_neg g] at h
  clear g
  by_cases g : x.op = 19
  · rw [if_pos g] at h
    exact push_len h
  rw [if_neg g] at h
  clear g
  by_cases g : x.op = 20 ∨ x.op = 21 ∨ x.op = 26
  · rw [if_pos g] at h
    exact Nat.le_trans (pop_len h) hs
  rw [if_neg g] at h
  clear g
  by_cases g : x.op = 22 ∨ x.op = 23
  · rw [if_pos g] at h
    exact Nat.le_trans (pop_len h) hs
  rw [if_neg g] at h
  clear g
  by_cases g : x.op = 25
  · rw [if_pos g] at h
    by_cases q : s = []
    · rw [if_pos q] at h; cases h; exact hs
    · rw [if_neg q] at h; cases h
  rw [if_neg g] at h
  clear g
  cases h; exact hs
/-- No stack is long. -/
def SmallK (k : Kn) : Prop := ∀ (i : Nat) (s : List Int), k[i]? = some (some s) → s.length ≤ 64
theorem SmallK.set {k : Kn} (h : SmallK k) {n : Nat} {s : List Int} (hs : s.length ≤ 64) : SmallK (k.set n (some s)) := by
  intro i s' hi
  rw [List.getElem?_set] at hi
  split at hi
  · split at hi
    · cases hi; exact hs
    · cases hi
  · exact h i s' hi
theorem comeP_small {c : Cd} {fn : En} {st en : Int} : ∀ (f : Nat) {at_ : Int} {s : List Int} {k k' : Kn}, SmallK k → s.length ≤ 64 → comeP c fn st en f at_ s k = some k' → SmallK k'
  | 0, _, _, _, _, _, _, h => by cases h
  | f + 1, at_, s, k, k', hk, hs, h => by
    rw [comeP] at h
    split at h
    · split at h
      · split at h
        · cases h; exact hk
        · cases h
      · have h1 := hk.set (n := at_.toNat) hs
        simp only at h
        split at h
        · cases h
        split at h
        · exact comeP_small f h1 hs h
        split at h
        · obtain ⟨s1, a1, h2⟩ := Option.bind_eq_some_iff.1 h
          obtain ⟨k2, a2, h3⟩ := Option.bind_eq_some_iff.1 h2
          have := pop_len a1
          exact comeP_small f (comeP_small f h1 (by omega) a2) (by omega) h3
        split at h
        · obtain ⟨k2, a2, h3⟩ := Option.bind_eq_some_iff.1 h
          obtain ⟨s1, a1, h4⟩ := Option.bind_eq_some_iff.1 h3
          have := pop_len a1
          exact comeP_small f (comeP_small f h1 hs a2) (by omega) h4
        · obtain ⟨s1, a1, h3⟩ := Option.bind_eq_some_iff.1 h
          split at h3
          · cases h3; exact h1
          · exact comeP_small f h1 (does_len hs a1) h3
    · cases h
theorem funcsP_small {c : Cd} : ∀ {l : List En} {k k' : Kn}, SmallK k → funcsP c l k = some k' → SmallK k'
  | [], k, k', hk, h => by cases h; exact hk
  | f :: l, k, k', hk, h => by
    rw [funcsP_cons] at h
    obtain ⟨k1, a1, h2⟩ := Option.bind_eq_some_iff.1 h
    exact funcsP_small (comeP_small _ hk (Nat.zero_le _) a1) h2
theorem none_small {n : Nat} : SmallK (List.replicate n none) := by
  intro i s h
  rw [List.getElem?_replicate] at h
  split at h <;> cases h
end Go.Ev
/- A jump in a row of instructions, without any program. -/
namespace Go.Ev

end Go.Ev
/- A stack that grows and falls, without any program. -/
namespace Go.Ev

def stackIns (n i : Nat) : Ins := if i < n then ⟨1, 0, 0, 0, 0⟩ else if i + 1 < 2 * n then ⟨11, 1, 0, 0, 0⟩ else if i + 1 = 2 * n then ⟨7, 0, 0, 0, 0⟩ else ⟨25, 0, 0, 0, 0⟩
def stackB (n : Nat) : List Ins := (List.range (2 * n + 1)).map (stackIns n)
def stackC (n : Nat) : Cd := ⟨[1], 0, 0, [], [⟨0, 0, []⟩], 0, stackB n⟩
theorem stackB_len {n : Nat} : (stackB n).length = 2 * n + 1 := by simp [stackB]
theorem stackB_get {n i : Nat} (h : i < 2 * n + 1) : (stackB n)[i]? = some (stackIns n i) := by simp [stackB, h]
theorem stackB_at {n i : Nat} (h : i < 2 * n + 1) : (stackC n).body.getD i zIns = stackIns n i := by
  show (stackB n).getD i zIns = _
  rw [List.getD_eq_getElem?_getD, stackB_get h]; rfl
/-- How high the stack is. -/
def high (n i : Nat) : Nat := if i ≤ n then i else 2 * n - i
def ones (k : Nat) : List Int := List.replicate k 1
def known (n i : Nat) : Kn := (List.range (2 * n + 1)).map fun j => if j < i then some (ones (high n j)) else none
theorem known_len {n i : Nat} : (known n i).length = 2 * n + 1 := by simp [known]
theorem known_at {n i : Nat} (h : i < 2 * n + 1) : (known n i).getD i none = none := by
  simp [known, List.getD, h]
theorem known_set {n i : Nat} (h : i < 2 * n + 1) : (known n i).set i (some (ones (high n i))) = known n (i + 1) := by
  apply List.ext_getElem?
  intro j
  rw [List.getElem?_set]
  by_cases e : i = j
  · subst e
    rw [if_pos rfl, if_pos (by rw [known_len]; exact h)]
    simp [known, h]
  · rw [if_neg e]
    simp only [known, List.getElem?_map]
    by_cases hj : j < 2 * n + 1
    · rw [List.getElem?_range hj]
      simp only [Option.map_some, Option.some.injEq]
      by_cases h1 : j < i
      · rw [if_pos h1, if_pos (by omega)]
      · rw [if_neg h1, if_neg (by omega)]
    · rw [List.getElem?_eq_none (by simp; omega)]; rfl
theorem ones_succ {k : Nat} : ones k ++ [1] = ones (k + 1) := by simp [ones, List.replicate_succ']
theorem ones_len {k : Nat} : (ones k).length = k := by simp [ones]
theorem ones_drop {k m : Nat} : (ones (k + m)).drop k = ones m := by simp [ones]
theorem ones_take {k m : Nat} : (ones (k + m)).take k = ones k := by simp [ones]
theorem push_ones {k : Nat} (h : k < 64) : pushP (ones k) 1 = some (ones (k + 1)) := by
  rw [pushP, if_pos (by rw [ones_len]; exact h), ones_succ]
theorem pop_ones {k m : Nat} : popP (ones (k + m)) (ones m) = some (ones k) := by
  rw [popP, ones_len, ones_len, Nat.add_sub_cancel, if_pos ⟨Nat.le_add_left _ _, ones_drop⟩, ones_take]
theorem does_ones {n i : Nat} {fn : En} (hi : i < 2 * n) (hn : n ≤ 64) (h1 : 1 ≤ n) : doesP (stackC n) fn (stackIns n i) (ones (high n i)) = some (ones (high n (i + 1))) := by
  unfold stackIns
  by_cases c1 : i < n
  · rw [if_pos c1]
    have e1 : high n i = i := if_pos (by omega)
    have e2 : high n (i + 1) = i + 1 := if_pos (by omega)
    rw [e1, e2, doesP, if_pos (.inl rfl)]
    exact push_ones (by omega)
  · rw [if_neg c1]
    by_cases c2 : i + 1 < 2 * n
    · rw [if_pos c2]
      obtain ⟨k, hk⟩ : ∃ k, high n i = k + 2 := ⟨high n i - 2, by unfold high; split <;> omega⟩
      have e2 : high n (i + 1) = k + 1 := by unfold high at hk ⊢; split at hk <;> split <;> omega
      have hk64 : k + 2 ≤ 64 := by unfold high at hk; split at hk <;> omega
      rw [hk, e2]
      have ht : topP (ones (k + 2)) 2 = some (ones 2) := by
        rw [topP, ones_len, if_pos (by omega), Nat.add_sub_cancel, ones_drop]
      have hp := pop_ones (k := k) (m := 2)
      have hpu := push_ones (k := k) (by omega)
      have ho : operP ⟨11, 1, 0, 0, 0⟩ (ones 2) = some 1 := by decide
      simp only [doesP]
      simp [ht, hp, ho, hpu]
    · rw [if_neg c2, if_pos (by omega)]
      have e1 : high n i = 0 + 1 := by unfold high; split <;> omega
      have e2 : high n (i + 1) = 0 := by unfold high; split <;> omega
      rw [e1, e2]
      have hp := pop_ones (k := 0) (m := 1)
      simp only [doesP]
      simp [stackC]
      exact hp
theorem walkS {n : Nat} {fn : En} (hn : n ≤ 64) (h1 : 1 ≤ n) : ∀ (d i fuel : Nat), i + d = 2 * n → d < fuel → comeP (stackC n) fn 0 (((2 * n + 1 : Nat) : Int)) fuel i (ones (high n i)) (known n i) = some (known n (2 * n + 1))
  | d, i, 0, _, h => absurd h (Nat.not_lt_zero _)
  | d, i, fuel + 1, hd, hf => by
    rw [comeP, if_pos (by omega), Int.toNat_natCast, known_at (by omega)]
    simp only [stackB_at (show i < 2 * n + 1 by omega), known_set (show i < 2 * n + 1 by omega)]
    cases d with
    | zero =>
      obtain rfl : i = 2 * n := by omega
      have hx : stackIns n (2 * n) = ⟨25, 0, 0, 0, 0⟩ := by
        rw [stackIns, if_neg (by omega), if_neg (by omega), if_neg (by omega)]
      have hh : high n (2 * n) = 0 := by unfold high; split <;> omega
      rw [hx, hh]
      simp [doesP, ones]
    | succ d =>
      have hdo := does_ones (fn := fn) (show i < 2 * n by omega) hn h1
      have ih := walkS (fn := fn) hn h1 d (i + 1) fuel (by omega) (by omega)
      have hop : (stackIns n i).op = 1 ∨ (stackIns n i).op = 11 ∨ (stackIns n i).op = 7 := by
        unfold stackIns
        by_cases c1 : i < n
        · rw [if_pos c1]; exact .inl rfl
        · rw [if_neg c1]
          by_cases c2 : i + 1 < 2 * n
          · rw [if_pos c2]; exact .inr (.inl rfl)
          · rw [if_neg c2, if_pos (by omega)]; exact .inr (.inr rfl)
      rw [hdo]
      rcases hop with e | e | e <;> simp [e] <;> exact ih
theorem walkT {n : Nat} {fn : En} (hn : 64 < n) : ∀ (d i fuel : Nat), i + d = 64 → comeP (stackC n) fn 0 (((2 * n + 1 : Nat) : Int)) fuel i (ones (high n i)) (known n i) = none
  | d, i, 0, _ => rfl
  | d, i, fuel + 1, hd => by
    rw [comeP, if_pos (by omega), Int.toNat_natCast, known_at (by omega)]
    simp only [stackB_at (show i < 2 * n + 1 by omega), known_set (show i < 2 * n + 1 by omega)]
    have hx : stackIns n i = ⟨1, 0, 0, 0, 0⟩ := if_pos (by omega)
    have hh : high n i = i := if_pos (by omega)
    rw [hx, hh]
    cases d with
    | zero =>
      obtain rfl : i = 64 := by omega
      have : pushP (ones 64) 1 = none := by rw [pushP, if_neg (by rw [ones_len]; omega)]
      simp [doesP, this]
    | succ d =>
      have ih := walkT (fn := fn) hn d (i + 1) fuel (by omega)
      have hp := push_ones (k := i) (by omega)
      have h2 : high n (i + 1) = i + 1 := if_pos (by omega)
      rw [h2] at ih
      simp [doesP, hp]
      exact ih
theorem stack_form {n : Nat} (h1 : 1 ≤ n) (h2 : n ≤ 100) : formB (stackC n) = true := by
  have hb : (stackC n).body = stackB n := rfl
  have hbl : (((stackC n).body.length : Nat) : Int) = 2 * n + 1 := by rw [hb, stackB_len]; omega
  have hs : shapeB (stackC n) = true := by
    simp only [shapeB, headOk, hbl]
    simp [stackC, ensOk, enOk, inside, typB]
    omega
  have hi : (stackC n).body.all (insOk (stackC n)) = true := by
    rw [List.all_eq_true]
    intro x hx
    rw [hb, stackB, List.mem_map] at hx
    obtain ⟨i, hi, rfl⟩ := hx
    unfold stackIns
    by_cases c1 : i < n
    · rw [if_pos c1]; simp [insOk, insB, inside]
    · rw [if_neg c1]
      by_cases c2 : i + 1 < 2 * n
      · rw [if_pos c2]
        have : (opName 11 1).isEmpty = false := by decide
        simp [insOk, insB, inside, this]
      · rw [if_neg c2]
        by_cases c3 : i + 1 = 2 * n
        · rw [if_pos c3]; simp [insOk, insB, inside, stackC]
        · rw [if_neg c3]; simp [insOk, insB, inside]
  simp [formB, hs, hi]
theorem stacks_one {n : Nat} (h1 : 1 ≤ n) (h2 : n ≤ 100) : stacksP (stackC n) = (comeP (stackC n) ⟨0, 0, []⟩ 0 (((2 * n + 1 : Nat) : Int)) (2 * n + 1 + 1) ((0 : Nat) : Int) (ones (high n 0)) (known n 0)).map fun k => k.map fun x => x.getD [] := by
  rw [stacksP, if_pos (stack_form h1 h2)]
  have hb : (stackC n).body.length = 2 * n + 1 := stackB_len
  show (funcsP (stackC n) [⟨0, 0, []⟩] _).map _ = _
  rw [funcsP_cons, hb]
  have hn : nextSt (stackC n) [] = (((2 * n + 1 : Nat)) : Int) := by
    show (((stackC n).body.length : Nat) : Int) = _
    rw [hb]
  rw [hn]
  have hk : (List.replicate (2 * n + 1) none : Kn) = known n 0 := by
    apply List.ext_getElem?
    intro j
    simp only [known, List.getElem?_map, List.getElem?_replicate]
    by_cases hj : j < 2 * n + 1
    · rw [if_pos hj, List.getElem?_range hj]; simp
    · rw [if_neg hj, List.getElem?_eq_none (by simp; omega)]; rfl
  rw [hk]
  have hz : ones (high n 0) = [] := by simp [high, ones]
  rw [hz]
  show Option.map _ (Option.bind (comeP _ _ 0 _ _ 0 _ _) _) = _
  cases comeP (stackC n) ⟨0, 0, []⟩ 0 (((2 * n + 1 : Nat)) : Int) (2 * n + 1 + 1) ((0 : Nat) : Int) [] (known n 0) <;> rfl
theorem stack_none {n : Nat} (h1 : 64 < n) (h2 : n ≤ 100) : stacksP (stackC n) = none := by
  rw [stacks_one (by omega) h2, walkT h1 64 0 _ rfl]; rfl
theorem stack_some {n : Nat} (h1 : 1 ≤ n) (h2 : n ≤ 64) : stacksP (stackC n) = some ((List.range (2 * n + 1)).map fun j => ones (high n j)) := by
  rw [stacks_one h1 (by omega), walkS h2 h1 (2 * n) 0 _ (by omega) (by omega)]
  simp only [Option.map_some, Option.some.injEq]
  simp only [known, List.map_map]
  apply List.map_congr_left
  intro j hj
  rw [List.mem_range] at hj
  simp [hj]
end Go.Ev
