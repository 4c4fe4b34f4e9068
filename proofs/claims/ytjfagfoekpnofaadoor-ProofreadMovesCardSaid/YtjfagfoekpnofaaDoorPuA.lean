/- Tokens, without any program: what the lexer computes. -/
set_option linter.all false
set_option linter.unusedVariables false
set_option linter.unusedSimpArgs false
namespace Go.Ev

def isBlank (c : UInt8) : Bool := decide (c.toNat = 32) || decide (c.toNat = 9) || decide (c.toNat = 10) || decide (c.toNat = 13)
def notNL (c : UInt8) : Bool := !decide (c.toNat = 10)

abbrev Bs := List UInt8

/-- A token: kind, text, its int, its bits, its place. -/
structure Tok where
  kind : Nat
  text : Bs
  n : Nat
  bits : Nat
  pos : Nat
  deriving DecidableEq, Inhabited

def hasP (a b : Bs) : Bool := a.take b.length == b

def skip1 (l : Bs) : Bs :=
  let l1 := l.dropWhile isBlank
  if hasP l1 [47, 47] then l1.dropWhile notNL else l1
def skipL : Nat → Bs → Bs
  | 0, l => l
  | n + 1, l => if (skip1 l).length = l.length then l else skipL n (skip1 l)
def skip (l : Bs) : Bs := skipL l.length l

end Go.Ev
/- Codes of instructions and the stacks at them, without any program. -/
namespace Go.Ev

structure Ins where
  op : Int
  a : Int
  b : Int
  bits : Int
  pos : Int
structure En where
  start : Int
  params : Int
  locals : List Int
structure Cd where
  places : List Int
  mutexes : Int
  atomics : Int
  chans : List (Int × Int)
  funcs : List En
  main : Int
  body : List Ins

def inside (n a b : Int) : Bool := decide (a ≤ n) && decide (n ≤ b)
def typB (t : Int) : Bool := inside t 1 3
def enOk (nb last : Int) (first : Bool) (f : En) : Bool :=
  decide (last < f.start) && (!first || f.start == 0) && decide (f.start < nb) && inside f.params 0 (min 4 (f.locals.length : Int)) && decide ((f.locals.length : Int) ≤ 32) && f.locals.all typB
def ensOk (nb : Int) : Int → Bool → List En → Bool
  | _, _, [] => true
  | last, first, f :: l => enOk nb last first f && ensOk nb f.start false l
/-- All but the instructions. -/
def headOk (c : Cd) : Bool :=
  decide ((c.places.length : Int) ≤ 128) && inside c.mutexes 0 32 && inside c.atomics 0 32 && decide (c.mutexes + c.atomics + c.chans.length ≤ 32) && decide ((c.funcs.length : Int) ≤ 16) && decide ((c.body.length : Int) ≤ 8192) && inside c.main 0 ((c.funcs.length : Int) - 1) && ((c.funcs.getD c.main.toNat ⟨0, 0, []⟩).params == 0)
def shapeB (c : Cd) : Bool :=
  headOk c && c.chans.all (fun x => typB x.1 && inside x.2 0 8) && ensOk c.body.length (-1) true c.funcs && c.places.all typB
def unaryL : List Bs := [[], [45], [33], [105, 110, 116], [102, 108, 111, 97, 116]]
def binaryL : List Bs := [[], [43], [45], [42], [47], [37], [61, 61], [33, 61], [60], [60, 61], [62], [62, 61]]
/-- The operator of a number. -/
def opName (op a : Int) : Bs := if a < 0 then [] else (if op = 10 then unaryL else if op = 11 then binaryL else []).getD a.toNat []
def arrayB (c : Cd) (first size : Int) : Bool :=
  inside size 1 64 && inside first 0 ((c.places.length : Int) - size) && ((c.places.drop first.toNat).take size.toNat).all (fun t => t == c.places.getD first.toNat 0)
/-- What an instruction must be, but its place. -/
def insB (c : Cd) (x : Ins) : Bool :=
  if x.op = 1 then decide (0 ≤ x.a) && x.b == 0 && x.bits == 0
  else if x.op = 2 then x.a == 0 && x.b == 0
  else if x.op = 3 then inside x.a 0 1 && x.b == 0 && x.bits == 0
  else if x.op = 4 ∨ x.op = 5 then inside x.a 0 31 && x.b == 0 && x.bits == 0
  else if x.op = 6 ∨ x.op = 7 then inside x.a 0 ((c.places.length : Int) - 1) && x.b == 0 && x.bits == 0
  else if x.op = 8 ∨ x.op = 9 then arrayB c x.a x.b && x.bits == 0
  else if x.op = 10 ∨ x.op = 11 then !(opName x.op x.a).isEmpty && x.b == 0 && x.bits == 0
  else if x.op = 12 then inside x.a 0 ((c.body.length : Int) - 1) && x.b == 0 && x.bits == 0
  else if x.op = 13 ∨ x.op = 14 then inside x.a 0 ((c.body.length : Int) - 1) && inside x.b 0 1 && x.bits == 0
  else if x.op = 15 ∨ x.op = 16 then inside x.a 0 (c.mutexes - 1) && x.b == 0 && x.bits == 0
  else if x.op = 17 ∨ x.op = 18 then inside x.a 0 ((c.chans.length : Int) - 1) && x.b == 0 && x.bits == 0
  else if x.op = 19 ∨ x.op = 20 ∨ x.op = 21 then inside x.a 0 (c.atomics - 1) && x.b == 0 && x.bits == 0
  else if x.op = 22 ∨ x.op = 23 then inside x.a 0 ((c.funcs.length : Int) - 1) && x.b == 0 && x.bits == 0
  else if x.op = 24 ∨ x.op = 25 ∨ x.op = 26 then x.a == 0 && x.b == 0 && x.bits == 0
  else false
def insOk (c : Cd) (x : Ins) : Bool := inside x.pos 0 8192 && insB c x
def formB (c : Cd) : Bool := shapeB c && c.body.all (insOk c)

/-- Types off a stack; one more; the top ones. -/
def popP (s types : List Int) : Option (List Int) := if types.length ≤ s.length ∧ s.drop (s.length - types.length) = types then some (s.take (s.length - types.length)) else none
def pushP (s : List Int) (t : Int) : Option (List Int) := if s.length < 64 then some (s ++ [t]) else none
def topP (s : List Int) (n : Nat) : Option (List Int) := if n ≤ s.length then some (s.drop (s.length - n)) else none
def numT (t : Int) : Bool := t == 1 || t == 2
/-- The type that an operator gives. -/
def operP (x : Ins) (types : List Int) : Option Int :=
  let t := types.getD 0 0
  if types.length = 1 ∨ types.getD 1 0 = t then
    let o := opName x.op x.a
    if x.op = 10 ∧ o = [45] then (if numT t then some t else none)
    else if x.op = 10 ∧ o = [33] then (if t = 3 then some t else none)
    else if o = [105, 110, 116] then (if t = 2 then some 1 else none)
    else if o = [102, 108, 111, 97, 116] then (if t = 1 then some 2 else none)
    else if o = [37] then (if t = 1 then some t else none)
    else if o = [61, 61] ∨ o = [33, 61] then some 3
    else if o = [60] ∨ o = [60, 61] ∨ o = [62] ∨ o = [62, 61] then (if numT t then some 3 else none)
    else (if numT t then some t else none)
  else none
/-- The stack behind an instruction. -/
def doesP (c : Cd) (f : En) (x : Ins) (s : List Int) : Option (List Int) :=
  if x.op = 1 ∨ x.op = 2 ∨ x.op = 3 then pushP s x.op
  else if x.op = 4 then (if x.a < f.locals.length then pushP s (f.locals.getD x.a.toNat 0) else none)
  else if x.op = 5 then (if x.a < f.locals.length then popP s [f.locals.getD x.a.toNat 0] else none)
  else if x.op = 6 then pushP s (c.places.getD x.a.toNat 0)
  else if x.op = 7 then popP s [c.places.getD x.a.toNat 0]
  else if x.op = 8 then (popP s [1]).bind fun s => pushP s (c.places.getD x.a.toNat 0)
  else if x.op = 9 then popP s [1, c.places.getD x.a.toNat 0]
  else if x.op = 10 ∨ x.op = 11 then (topP s (x.op - 9).toNat).bind fun ts => (popP s ts).bind fun s => (operP x ts).bind fun t => pushP s t
  else if x.op = 17 then popP s [(c.chans.getD x.a.toNat (0, 0)).1]
  else if x.op = 18 then pushP s (c.chans.getD x.a.toNat (0, 0)).1
  else if x.op = 19 then pushP s 1
  else if x.op = 20 ∨ x.op = 21 ∨ x.op = 26 then popP s [1]
  else if x.op = 22 ∨ x.op = 23 then popP s ((c.funcs.getD x.a.toNat ⟨0, 0, []⟩).locals.take (c.funcs.getD x.a.toNat ⟨0, 0, []⟩).params.toNat)
  else if x.op = 25 then (if s = [] then some s else none)
  else some s
/-- What is known: of each instruction its stack, if it was come to. -/
abbrev Kn := List (Option (List Int))
def zIns : Ins := ⟨0, 0, 0, 0, 0⟩
def comeP (c : Cd) (fn : En) (st en : Int) : Nat → Int → List Int → Kn → Option Kn
  | 0, _, _, _ => none
  | f + 1, at_, s, k =>
    if st ≤ at_ ∧ at_ < en then
      match k.getD at_.toNat none with
      | some s' => if s' = s then some k else none
      | none =>
        let k1 := k.set at_.toNat (some s)
        let x := c.body.getD at_.toNat zIns
        if (x.op = 12 ∨ x.op = 13 ∨ x.op = 14) ∧ ¬ (at_ < x.a ∨ (c.body.getD x.a.toNat zIns).op = 24) then none
        else if x.op = 12 then comeP c fn st en f x.a s k1
        else if x.op = 13 then (popP s [3]).bind fun s => (comeP c fn st en f x.a s k1).bind fun k => comeP c fn st en f (at_ + 1) s k
        else if x.op = 14 then (comeP c fn st en f x.a s k1).bind fun k => (popP s [3]).bind fun s => comeP c fn st en f (at_ + 1) s k
        else (doesP c fn x s).bind fun s => if x.op = 25 ∨ x.op = 26 then some k1 else comeP c fn st en f (at_ + 1) s k1
    else none
def funcsP (c : Cd) : List En → Kn → Option Kn
  | [], k => some k
  | f :: l, k => (comeP c f f.start (match l with | [] => c.body.length | g :: _ => g.start) (c.body.length + 1) f.start [] k).bind (funcsP c l)
def stacksP (c : Cd) : Option (List (List Int)) :=
  if formB c then (funcsP c c.funcs (List.replicate c.body.length none)).map fun k => k.map fun x => x.getD [] else none
end Go.Ev
/- Coming to instructions: how many are left. -/
namespace Go.Ev

/-- How many were not come to. -/
def left (k : Kn) : Nat := k.countP fun x => x.isNone
theorem left_set {k : Kn} {n : Nat} {s : List Int} (h : k[n]? = some none) : left (k.set n (some s)) + 1 = left k := by
  induction k generalizing n with
  | nil => simp at h
  | cons x k ih =>
    cases n with
    | zero =>
      simp at h
      subst h
      simp [left]
    | succ n =>
      have := ih (n := n) (by simpa using h)
      simp only [left] at this ⊢
      rw [List.set_cons_succ, List.countP_cons, List.countP_cons]
      omega
theorem getD_none {k : Kn} {n : Nat} (hn : n < k.length) (h : k.getD n none = none) : k[n]? = some none := by
  rw [List.getD_eq_getElem?_getD, List.getElem?_eq_getElem hn] at h
  rw [List.getElem?_eq_getElem hn]
  simpa using h
theorem comeP_left {c : Cd} {fn : En} {st en : Int} : ∀ (f : Nat) {at_ : Int} {s : List Int} {k k' : Kn}, (k.length : Int) ≥ en → 0 ≤ st → comeP c fn st en f at_ s k = some k' → k'.length = k.length ∧ left k' ≤ left k
  | 0, _, _, _, _, _, _, h => by cases h
  | f + 1, at_, s, k, k', he, h0, h => by
    rw [comeP] at h
    split at h
    · rename_i hin
      obtain ⟨n, rfl⟩ := Int.eq_ofNat_of_zero_le (show 0 ≤ at_ by omega)
      rw [Int.toNat_natCast] at h
      have hn : n < k.length := by omega
      split at h
      · split at h
        · cases h; exact ⟨rfl, Nat.le_refl _⟩
        · cases h
      · rename_i hk
        have hl := left_set (s := s) (getD_none hn hk)
        have he1 : ((k.set n (some s)).length : Int) ≥ en := by simpa using he
        simp only at h
        split at h
        · cases h
        split at h
        · have := comeP_left f he1 h0 h
          simp at this; omega
        split at h
        · cases hp : popP s [3] with
          | none => rw [hp] at h; cases h
          | some s1 =>
            rw [hp] at h
            simp only [Option.bind_some] at h
            cases hc : comeP c fn st en f (c.body.getD n zIns).a s1 (k.set n (some s)) with
            | none => rw [hc] at h; cases h
            | some k2 =>
              rw [hc] at h
              simp only [Option.bind_some] at h
              have a1 := comeP_left f he1 h0 hc
              simp at a1
              have a2 := comeP_left f (by rw [a1.1]; exact he) h0 h
              omega
        split at h
        · cases hc : comeP c fn st en f (c.body.getD n zIns).a s (k.set n (some s)) with
          | none => rw [hc] at h; cases h
          | some k2 =>
            rw [hc] at h
            simp only [Option.bind_some] at h
            cases hp : popP s [3] with
            | none => rw [hp] at h; cases h
            | some s1 =>
              rw [hp] at h
              simp only [Option.bind_some] at h
              have a1 := comeP_left f he1 h0 hc
              simp at a1
              have a2 := comeP_left f (by rw [a1.1]; exact he) h0 h
              omega
        · cases hd : doesP c fn (c.body.getD n zIns) s with
          | none => rw [hd] at h; cases h
          | some s1 =>
            rw [hd] at h
            simp only [Option.bind_some] at h
            split at h
            · cases h
              simp; omega
            · have a1 := comeP_left f he1 h0 h
              simp at a1
              omega
    · cases h
/-- Where the next function begins. -/
def nextSt (c : Cd) : List En → Int
  | [] => c.body.length
  | g :: _ => g.start
theorem funcsP_cons {c : Cd} {f : En} {l : List En} {k : Kn} : funcsP c (f :: l) k = (comeP c f f.start (nextSt c l) (c.body.length + 1) f.start [] k).bind fun k => funcsP c l k := by
  cases l <;> rfl
theorem push_len {s s' : List Int} {t : Int} (h : pushP s t = some s') : s'.length ≤ 64 := by
  unfold pushP at h
  split at h
  · cases h; simp only [List.length_append, List.length_cons, List.length_nil]; omega
  · cases h
theorem pop_len {s s' m : List Int} (h : popP s m = some s') : s'.length ≤ s.length := by
  unfold popP at h
  split at h
  · cases h; rw [List.length_take]; omega
  · cases h
theorem does_len {c : Cd} {fn : En} {x : Ins} {s s' : List Int} (hs : s.length ≤ 64) (h : doesP c fn x s = some s') : s'.length ≤ 64 := by
  unfold doesP at h
  by_cases g : x.op = 1 ∨ x.op = 2 ∨ x.op = 3
  · rw [if_pos g] at h
    exact push_len h
  rw [if_neg g] at h
  clear g
  by_cases g : x.op = 4
  · rw [if_pos g] at h
    by_cases q : x.a < fn.locals.length
    · rw [if_pos q] at h; exact push_len h
    · rw [if_neg q] at h; cases h
  rw [if_neg g] at h
  clear g
  by_cases g : x.op = 5
  · rw [if_pos g] at h
    by_cases q : x.a < fn.locals.length
    · rw [if_pos q] at h; exact Nat.le_trans (pop_len h) hs
    · rw [if_neg q] at h; cases h
  rw [if_neg g] at h
  clear g
  by_cases g : x.op = 6
  · rw [if_pos g] at h
    exact push_len h
  rw [if_neg g] at h
  clear g
  by_cases g : x.op = 7
  · rw [if_pos g] at h
    exact Nat.le_trans (pop_len h) hs
  rw [if_neg g] at h
  clear g
  by_cases g : x.op = 8
  · rw [if_pos g] at h
    obtain ⟨s1, _, h2⟩ := Option.bind_eq_some_iff.1 h
    exact push_len h2
  rw [if_neg g] at h
  clear g
  by_cases g : x.op = 9
  · rw [if_pos g] at h
    exact Nat.le_trans (pop_len h) hs
  rw [if_neg g] at h
  clear g
  by_cases g : x.op = 10 ∨ x.op = 11
  · rw [if_pos g] at h
    obtain ⟨s1, _, h2⟩ := Option.bind_eq_some_iff.1 h
    obtain ⟨s2, _, h3⟩ := Option.bind_eq_some_iff.1 h2
    obtain ⟨s3, _, h4⟩ := Option.bind_eq_some_iff.1 h3
    exact push_len h4
  rw [if_neg g] at h
  clear g
  by_cases g : x.op = 17
  · rw [if_pos g] at h
    exact Nat.le_trans (pop_len h) hs
  rw [if_neg g] at h
  clear g
  by_cases g : x.op = 18
  · rw [if_pos g] at h
    exact push_len h
  rw [if_neg g] at h
  clear g
  by_cases g : x.op = 19
  · rw [if_pos g] at h
    exact push_len h
  rw [if_neg g] at h
  clear g
  by_cases g : x.op = 20 ∨ x.op = 21 ∨ x.op = 26
  · rw [if_pos g] at h
    exact Nat.le_trans (pop_len h) hs
  rw [if_neg g] at h
  clear g
  by_cases g : x.op = 22 ∨ x.op = 23
  · rw [if_pos g] at h
    exact Nat.le_trans (pop_len h) hs
  rw [if_neg g] at h
  clear g
  by_cases g : x.op = 25
  · rw [if_pos g] at h
    by_cases q : s = []
    · rw [if_pos q] at h; cases h; exact hs
    · rw [if_neg q] at h; cases h
  rw [if_neg g] at h
  clear g
  cases h; exact hs
/-- No stack is long. -/
def SmallK (k : Kn) : Prop := ∀ (i : Nat) (s : List Int), k[i]? = some (some s) → s.length ≤ 64
theorem SmallK.set {k : Kn} (h : SmallK k) {n : Nat} {s : List Int} (hs : s.length ≤ 64) : SmallK (k.set n (some s)) := by
  intro i s' hi
  rw [List.getElem?_set] at hi
  split at hi
  · split at hi
    · cases hi; exact hs
    · cases hi
  · exact h i s' hi
theorem comeP_small {c : Cd} {fn : En} {st en : Int} : ∀ (f : Nat) {at_ : Int} {s : List Int} {k k' : Kn}, SmallK k → s.length ≤ 64 → comeP c fn st en f at_ s k = some k' → SmallK k'
  | 0, _, _, _, _, _, _, h => by cases h
  | f + 1, at_, s, k, k', hk, hs, h => by
    rw [comeP] at h
    split at h
    · split at h
      · split at h
        · cases h; exact hk
        · cases h
      · have h1 := hk.set (n := at_.toNat) hs
        simp only at h
        split at h
        · cases h
        split at h
        · exact comeP_small f h1 hs h
        split at h
        · obtain ⟨s1, a1, h2⟩ := Option.bind_eq_some_iff.1 h
          obtain ⟨k2, a2, h3⟩ := Option.bind_eq_some_iff.1 h2
          have := pop_len a1
          exact comeP_small f (comeP_small f h1 (by omega) a2) (by omega) h3
        split at h
        · obtain ⟨k2, a2, h3⟩ := Option.bind_eq_some_iff.1 h
          obtain ⟨s1, a1, h4⟩ := Option.bind_eq_some_iff.1 h3
          have := pop_len a1
          exact comeP_small f (comeP_small f h1 hs a2) (by omega) h4
        · obtain ⟨s1, a1, h3⟩ := Option.bind_eq_some_iff.1 h
          split at h3
          · cases h3; exact h1
          · exact comeP_small f h1 (does_len hs a1) h3
    · cases h
theorem funcsP_small {c : Cd} : ∀ {l : List En} {k k' : Kn}, SmallK k → funcsP c l k = some k' → SmallK k'
  | [], k, k', hk, h => by cases h; exact hk
  | f :: l, k, k', hk, h => by
    rw [funcsP_cons] at h
    obtain ⟨k1, a1, h2⟩ := Option.bind_eq_some_iff.1 h
    exact funcsP_small (comeP_small _ hk (Nat.zero_le _) a1) h2
theorem none_small {n : Nat} : SmallK (List.replicate n none) := by
  intro i s h
  rw [List.getElem?_replicate] at h
  split at h <;> cases h
end Go.Ev
/- A jump in a row of instructions, without any program. -/
namespace Go.Ev

end Go.Ev
/- A stack that grows and falls, without any program. -/
namespace Go.Ev

/-- How high the stack is. -/
def high (n i : Nat) : Nat := if i ≤ n then i else 2 * n - i
def ones (k : Nat) : List Int := List.replicate k 1
def known (n i : Nat) : Kn := (List.range (2 * n + 1)).map fun j => if j < i then some (ones (high n j)) else none
end Go.Ev
/- A code moved by a Turn, without any program. -/
namespace Go.Ev

def mvI (x : Ins) : Ins := if 12 ≤ x.op ∧ x.op ≤ 14 then { x with a := x.a + 1 } else x
def sh (f : En) : En := { f with start := f.start + 1 }
def mvF : List En → List En
  | [] => []
  | f :: l => f :: l.map sh
def turnI : Ins := ⟨24, 0, 0, 0, 0⟩
def mv (c : Cd) : Cd := { c with body := turnI :: c.body.map mvI, funcs := mvF c.funcs }
theorem mvF_len {l : List En} : (mvF l).length = l.length := by cases l <;> simp [mvF]
theorem mv_blen {c : Cd} : (mv c).body.length = c.body.length + 1 := by simp [mv]
theorem mvF_at {l : List En} {i : Nat} : ((mvF l).getD i ⟨0, 0, []⟩).locals = (l.getD i ⟨0, 0, []⟩).locals ∧ ((mvF l).getD i ⟨0, 0, []⟩).params = (l.getD i ⟨0, 0, []⟩).params := by
  cases l with
  | nil => simp [mvF]
  | cons f l =>
    cases i with
    | zero => simp [mvF]
    | succ i =>
      simp only [mvF, List.getD_cons_succ]
      rw [List.getD_eq_getElem?_getD, List.getD_eq_getElem?_getD, List.getElem?_map]
      rcases hx : l[i]? with _ | x <;> simp [sh]
theorem mvI_op {x : Ins} : (mvI x).op = x.op := by unfold mvI; split <;> rfl
theorem mv_at {c : Cd} {n : Nat} : (mv c).body.getD (n + 1) zIns = mvI (c.body.getD n zIns) := by
  show (turnI :: c.body.map mvI).getD (n + 1) zIns = _
  rw [List.getD_cons_succ, List.getD_eq_getElem?_getD, List.getD_eq_getElem?_getD, List.getElem?_map]
  rcases c.body[n]? with _ | x <;> rfl
theorem insB_mv {c : Cd} {x : Ins} (h : insB c x = true) : insB (mv c) (mvI x) = true := by
  have hbl : (((mv c).body.length : Nat) : Int) = c.body.length + 1 := by rw [mv_blen]; omega
  have hfl : (mv c).funcs.length = c.funcs.length := mvF_len
  by_cases h1 : 12 ≤ x.op ∧ x.op ≤ 14
  · obtain ⟨op, a, b, bits, pos⟩ := x
    simp only at h1
    have e : mvI ⟨op, a, b, bits, pos⟩ = ⟨op, a + 1, b, bits, pos⟩ := if_pos h1
    rw [e]
    rcases (by omega : op = 12 ∨ op = 13 ∨ op = 14) with rfl | rfl | rfl <;> simp [insB, inside, hbl] at h ⊢ <;> omega
  · have e : mvI x = x := if_neg h1
    rw [e, ← h]
    have n1 : ¬ x.op = 12 := by omega
    have n2 : ¬ x.op = 13 := by omega
    have n3 : ¬ x.op = 14 := by omega
    have ha : ∀ a b, arrayB (mv c) a b = arrayB c a b := fun _ _ => rfl
    simp only [insB, hfl, ha, n1, n2, n3, if_false, or_self]
    rfl
theorem ens_mono {nb last last' : Int} (hl : last' ≤ last) : ∀ {l : List En}, ensOk nb last false l = true → ensOk nb last' false l = true
  | [], _ => rfl
  | f :: l, h => by
    simp only [ensOk, Bool.and_eq_true] at h ⊢
    refine ⟨?_, h.2⟩
    have := h.1
    simp only [enOk, Bool.and_eq_true, decide_eq_true_eq] at this ⊢
    obtain ⟨⟨⟨⟨⟨a1, a2⟩, a3⟩, a4⟩, a5⟩, a6⟩ := this
    exact ⟨⟨⟨⟨⟨by omega, a2⟩, a3⟩, a4⟩, a5⟩, a6⟩
theorem ens_shift {nb : Int} : ∀ {l : List En} {last : Int}, ensOk nb last false l = true → ensOk (nb + 1) (last + 1) false (l.map sh) = true
  | [], _, _ => rfl
  | f :: l, last, h => by
    simp only [ensOk, Bool.and_eq_true, List.map_cons] at h ⊢
    refine ⟨?_, ens_shift h.2⟩
    have := h.1
    have hs : (sh f).start = f.start + 1 := rfl
    have hp : (sh f).params = f.params := rfl
    have hlo : (sh f).locals = f.locals := rfl
    simp only [enOk, hs, hp, hlo, Bool.and_eq_true, decide_eq_true_eq] at this ⊢
    obtain ⟨⟨⟨⟨⟨a1, a2⟩, a3⟩, a4⟩, a5⟩, a6⟩ := this
    exact ⟨⟨⟨⟨⟨by omega, rfl⟩, by omega⟩, a4⟩, a5⟩, a6⟩
theorem ens_mv {nb : Int} {l : List En} (h : ensOk nb (-1) true l = true) : ensOk (nb + 1) (-1) true (mvF l) = true := by
  cases l with
  | nil => rfl
  | cons f l =>
    simp only [ensOk, mvF, Bool.and_eq_true] at h ⊢
    refine ⟨?_, ens_mono (by omega) (ens_shift h.2)⟩
    have := h.1
    simp only [enOk, Bool.and_eq_true, decide_eq_true_eq] at this ⊢
    obtain ⟨⟨⟨⟨⟨a1, a2⟩, a3⟩, a4⟩, a5⟩, a6⟩ := this
    exact ⟨⟨⟨⟨⟨a1, a2⟩, by omega⟩, a4⟩, a5⟩, a6⟩
theorem mv_form {c : Cd} (h : formB c = true) (hl : c.body.length < 8192) : formB (mv c) = true := by
  have hbl : (((mv c).body.length : Nat) : Int) = c.body.length + 1 := by rw [mv_blen]; omega
  have hfl : (mv c).funcs.length = c.funcs.length := mvF_len
  simp only [formB, shapeB, Bool.and_eq_true] at h ⊢
  obtain ⟨⟨⟨⟨h1, h2⟩, h3⟩, h4⟩, h5⟩ := h
  refine ⟨⟨⟨⟨?_, h2⟩, ?_⟩, h4⟩, ?_⟩
  · simp only [headOk, Bool.and_eq_true, hfl, hbl] at h1 ⊢
    obtain ⟨⟨⟨⟨⟨⟨⟨a1, a2⟩, a3⟩, a4⟩, a5⟩, a6⟩, a7⟩, a8⟩ := h1
    refine ⟨⟨⟨⟨⟨⟨⟨a1, a2⟩, a3⟩, a4⟩, a5⟩, ?_⟩, a7⟩, ?_⟩
    · exact decide_eq_true (by omega)
    · rw [show (mv c).funcs = mvF c.funcs from rfl, show (mv c).main = c.main from rfl, mvF_at.2]; exact a8
  · rw [hbl]; exact ens_mv h3
  · rw [List.all_eq_true] at h5 ⊢
    intro x hx
    rcases List.mem_cons.1 hx with rfl | hx
    · simp [insOk, insB, turnI, inside]
    · obtain ⟨y, hy, rfl⟩ := List.mem_map.1 hx
      have := h5 y hy
      simp only [insOk, Bool.and_eq_true] at this ⊢
      refine ⟨?_, insB_mv this.2⟩
      have hp : (mvI y).pos = y.pos := by unfold mvI; split <;> rfl
      rw [hp]; exact this.1
theorem does_mv {c : Cd} {fn fn' : En} {x : Ins} {s : List Int} (hl : fn'.locals = fn.locals) : doesP (mv c) fn' x s = doesP c fn x s := by
  have e1 : (mv c).funcs = mvF c.funcs := rfl
  unfold doesP
  rw [hl, e1, mvF_at.1, mvF_at.2]
  rfl
theorem comeP_mono {c : Cd} {fn : En} {st en : Int} : ∀ (f : Nat) {at_ : Int} {s : List Int} {k k' : Kn}, comeP c fn st en f at_ s k = some k' → comeP c fn st en (f + 1) at_ s k = some k'
  | 0, _, _, _, _, h => by cases h
  | f + 1, at_, s, k, k', h => by
    rw [comeP] at h ⊢
    split at h
    · rename_i hin
      rw [if_pos hin]
      split at h
      · rename_i s' hk
        exact h
      · rename_i hk
        simp only at h ⊢
        split at h
        · cases h
        · rename_i hj
          rw [if_neg hj]
          split at h
          · rename_i e; rw [if_pos e]; exact comeP_mono f h
          · rename_i e; rw [if_neg e]
            split at h
            · rename_i e; rw [if_pos e]
              obtain ⟨s1, a1, h2⟩ := Option.bind_eq_some_iff.1 h
              obtain ⟨k2, a2, h3⟩ := Option.bind_eq_some_iff.1 h2
              rw [a1, Option.bind_some, comeP_mono f a2, Option.bind_some]
              exact comeP_mono f h3
            · rename_i e; rw [if_neg e]
              split at h
              · rename_i e; rw [if_pos e]
                obtain ⟨k2, a2, h3⟩ := Option.bind_eq_some_iff.1 h
                obtain ⟨s1, a1, h4⟩ := Option.bind_eq_some_iff.1 h3
                rw [comeP_mono f a2, Option.bind_some, a1, Option.bind_some]
                exact comeP_mono f h4
              · rename_i e; rw [if_neg e]
                obtain ⟨s1, a1, h3⟩ := Option.bind_eq_some_iff.1 h
                rw [a1, Option.bind_some]
                split at h3
                · rename_i e; rw [if_pos e]; exact h3
                · rename_i e; rw [if_neg e]; exact comeP_mono f h3
    · cases h
/-- The moved code is read as the code is. -/
theorem come_mv {c : Cd} {fn fn' : En} {st st' en : Int} (hI : ∀ x ∈ c.body, insB c x = true) (hl : fn'.locals = fn.locals) (h0 : 0 ≤ st) (hst : st' = st + 1 ∨ (st' = 0 ∧ st = 0)) (hen : en ≤ c.body.length) : ∀ (f n : Nat) (s : List Int) (k : Kn), comeP (mv c) fn' st' (en + 1) f ((n + 1 : Nat) : Int) s (some [] :: k) = (comeP c fn st en f (n : Int) s k).map (some [] :: ·)
  | 0, _, _, _ => rfl
  | f + 1, n, s, k => by
    rw [comeP, comeP]
    by_cases hin : st ≤ (n : Int) ∧ (n : Int) < en
    · rw [if_pos hin, if_pos (by omega), Int.toNat_natCast, Int.toNat_natCast, List.getD_cons_succ]
      cases hk : k.getD n none with
      | some s' =>
        by_cases e : s' = s
        · simp [e]
        · simp [e]
      | none =>
        simp only [List.set_cons_succ, mv_at]
        have hnl : n < c.body.length := by omega
        have hx : c.body.getD n zIns = c.body[n] := by simp [List.getD, hnl]
        have hIx := hI _ (List.getElem_mem hnl)
        rw [hx]
        generalize c.body[n] = x at *
        by_cases hj : x.op = 12 ∨ x.op = 13 ∨ x.op = 14
        · have ha : 0 ≤ x.a := by
            rcases hj with e | e | e <;> simp [insB, inside, e] at hIx <;> omega
          obtain ⟨m, hm⟩ := Int.eq_ofNat_of_zero_le ha
          have hmi : mvI x = { x with a := x.a + 1 } := if_pos (by omega)
          have hma : (mvI x).a = ((m + 1 : Nat) : Int) := by rw [hmi]; show x.a + 1 = _; omega
          have hop := mvI_op (x := x)
          rw [hma, hm, hop, Int.toNat_natCast, Int.toNat_natCast, mv_at, mvI_op]
          have hlt : (((n + 1 : Nat) : Int) < ((m + 1 : Nat) : Int)) ↔ ((n : Int) < (m : Int)) := by omega
          have hn1 : ((n + 1 : Nat) : Int) + 1 = ((n + 1 + 1 : Nat) : Int) := by omega
          have hn2 : (n : Int) + 1 = ((n + 1 : Nat) : Int) := by omega
          rw [hn1, hn2]
          by_cases hw : (x.op = 12 ∨ x.op = 13 ∨ x.op = 14) ∧ ¬((n : Int) < (m : Int) ∨ (c.body.getD m zIns).op = 24)
          · rw [if_pos hw, if_pos ⟨hw.1, fun h => hw.2 (h.imp hlt.1 id)⟩]; rfl
          · rw [if_neg hw, if_neg (fun h => hw ⟨h.1, fun q => h.2 (q.imp hlt.2 id)⟩)]
            by_cases c12 : x.op = 12
            · rw [if_pos c12, if_pos c12]
              exact come_mv hI hl h0 hst hen f m s _
            · rw [if_neg c12, if_neg c12]
              by_cases c13 : x.op = 13
              · rw [if_pos c13, if_pos c13]
                cases popP s [3] with
                | none => rfl
                | some s1 =>
                  simp only [Option.bind_some]
                  rw [come_mv hI hl h0 hst hen f m s1 _]
                  cases comeP c fn st en f (m : Int) s1 (k.set n (some s)) with
                  | none => rfl
                  | some k2 =>
                    simp only [Option.map_some, Option.bind_some]
                    exact come_mv hI hl h0 hst hen f (n + 1) s1 k2
              · have c14 : x.op = 14 := by omega
                rw [if_neg c13, if_neg c13, if_pos c14, if_pos c14]
                rw [come_mv hI hl h0 hst hen f m s _]
                cases comeP c fn st en f (m : Int) s (k.set n (some s)) with
                | none => rfl
                | some k2 =>
                  simp only [Option.map_some, Option.bind_some]
                  cases popP s [3] with
                  | none => rfl
                  | some s1 =>
                    simp only [Option.bind_some]
                    exact come_mv hI hl h0 hst hen f (n + 1) s1 k2
        · have hmi : mvI x = x := if_neg (by omega)
          have n1 : ¬ x.op = 12 := fun e => hj (.inl e)
          have n2 : ¬ x.op = 13 := fun e => hj (.inr (.inl e))
          have n3 : ¬ x.op = 14 := fun e => hj (.inr (.inr e))
          have hn1 : ((n + 1 : Nat) : Int) + 1 = ((n + 1 + 1 : Nat) : Int) := by omega
          have hn2 : (n : Int) + 1 = ((n + 1 : Nat) : Int) := by omega
          simp only [hmi, n1, n2, n3, false_or, or_self, false_and, if_false]
          rw [does_mv hl, hn1, hn2]
          cases doesP c fn x s with
          | none => rfl
          | some s1 =>
            simp only [Option.bind_some]
            by_cases c25 : x.op = 25 ∨ x.op = 26
            · rw [if_pos c25, if_pos c25]; rfl
            · rw [if_neg c25, if_neg c25]
              exact come_mv hI hl h0 hst hen f (n + 1) s1 _
    · rw [if_neg hin, if_neg (by omega)]; rfl
theorem funcs_mv {c : Cd} (hI : ∀ x ∈ c.body, insB c x = true) : ∀ (l : List En) (k k' : Kn), (∀ f ∈ l, 0 ≤ f.start ∧ f.start < c.body.length) → funcsP c l k = some k' → funcsP (mv c) (l.map sh) (some [] :: k) = some (some [] :: k')
  | [], k, k', _, h => by cases h; rfl
  | f :: l, k, k', hf, h => by
    rw [funcsP_cons] at h
    obtain ⟨k1, a1, h2⟩ := Option.bind_eq_some_iff.1 h
    have hff := hf f List.mem_cons_self
    obtain ⟨n, hn⟩ := Int.eq_ofNat_of_zero_le hff.1
    have hns : nextSt (mv c) (l.map sh) = nextSt c l + 1 := by
      cases l with
      | nil => show (((mv c).body.length : Nat) : Int) = _; rw [mv_blen]; show _ = ((c.body.length : Nat) : Int) + 1; omega
      | cons g l => rfl
    have hen : nextSt c l ≤ c.body.length := by
      cases l with
      | nil => exact Int.le_refl _
      | cons g l =>
        have := hf g (List.mem_cons_of_mem _ List.mem_cons_self)
        show g.start ≤ _
        omega
    have hs : (sh f).start = ((n + 1 : Nat) : Int) := by show f.start + 1 = _; omega
    rw [List.map_cons, funcsP_cons, hns, mv_blen, hs]
    have hc := come_mv (fn := f) (fn' := sh f) (st := f.start) (st' := ((n + 1 : Nat) : Int)) (en := nextSt c l) hI rfl hff.1 (.inl (by omega)) hen (c.body.length + 1) n [] k
    rw [← hn, a1] at hc
    rw [comeP_mono _ hc, Option.bind_some]
    exact funcs_mv hI l k1 k' (fun g hg => hf g (List.mem_cons_of_mem _ hg)) h2
theorem mv_stacks {c : Cd} {ls : List (List Int)} (hl : c.body.length < 8192) (h : stacksP c = some ls) : stacksP (mv c) = some ([] :: ls) := by
  unfold stacksP at h
  split at h
  · rename_i hfm
    rw [stacksP, if_pos (mv_form hfm hl)]
    obtain ⟨k', hk, rfl⟩ := Option.map_eq_some_iff.1 h
    simp only [formB, shapeB, Bool.and_eq_true] at hfm
    obtain ⟨⟨⟨⟨h1, _⟩, h3⟩, _⟩, h5⟩ := hfm
    have hI : ∀ x ∈ c.body, insB c x = true := fun x hx => by
      have := List.all_eq_true.1 h5 x hx
      simp only [insOk, Bool.and_eq_true] at this
      exact this.2
    cases hfs : c.funcs with
    | nil =>
      simp [headOk, inside, hfs] at h1
      omega
    | cons f l =>
      rw [hfs] at hk h3
      simp only [ensOk, Bool.and_eq_true] at h3
      have hf0 : f.start = 0 := by
        have := h3.1
        simp [enOk] at this
        exact this.1.1.1.1.2
      have hfl : f.start < c.body.length := by
        have := h3.1
        simp only [enOk, Bool.and_eq_true, decide_eq_true_eq] at this
        exact this.1.1.1.2
      have hall : ∀ g ∈ l, 0 ≤ g.start ∧ g.start < c.body.length := by
        have : ∀ (l : List En) (last : Int), 0 ≤ last → ensOk c.body.length last false l = true → ∀ g ∈ l, 0 ≤ g.start ∧ g.start < c.body.length := by
          intro l
          induction l with
          | nil => intro _ _ _ g hg; cases hg
          | cons a l ih =>
            intro last h0 h g hg
            simp only [ensOk, Bool.and_eq_true] at h
            have ha := h.1
            simp only [enOk, Bool.and_eq_true, decide_eq_true_eq] at ha
            have b1 := ha.1.1.1.1.1
            have b2 := ha.1.1.1.2
            rcases List.mem_cons.1 hg with rfl | hg
            · exact ⟨by omega, b2⟩
            · exact ih _ (by omega) h.2 g hg
        exact this l f.start (by omega) h3.2
      rw [funcsP_cons] at hk
      obtain ⟨k1, a1, h2⟩ := Option.bind_eq_some_iff.1 hk
      have hns : nextSt (mv c) (l.map sh) = nextSt c l + 1 := by
        cases l with
        | nil => show (((mv c).body.length : Nat) : Int) = _; rw [mv_blen]; show _ = ((c.body.length : Nat) : Int) + 1; omega
        | cons g l => rfl
      have hen : nextSt c l ≤ c.body.length := by
        cases l with
        | nil => exact Int.le_refl _
        | cons g l =>
          have := hall g List.mem_cons_self
          show g.start ≤ _
          omega
      have hen0 : 0 ≤ nextSt c l := by
        cases l with
        | nil => show 0 ≤ ((c.body.length : Nat) : Int); omega
        | cons g l => exact (hall g List.mem_cons_self).1
      have hmf : (mv c).funcs = f :: l.map sh := by show mvF c.funcs = _; rw [hfs]; rfl
      rw [hmf, funcsP_cons, hns, mv_blen]
      have hc := come_mv (fn := f) (fn' := f) (st := f.start) (st' := f.start) (en := nextSt c l) hI rfl (by omega) (.inr ⟨hf0, hf0⟩) hen (c.body.length + 1) 0 [] (List.replicate c.body.length none)
      rw [hf0] at a1 hc ⊢
      have hstep : comeP (mv c) f 0 (nextSt c l + 1) (c.body.length + 1 + 1) 0 [] (List.replicate (c.body.length + 1) none) = some (some [] :: k1) := by
        rw [comeP, if_pos (by omega)]
        simp only [List.replicate_succ]
        have hx : (mv c).body.getD (0 : Int).toNat zIns = turnI := rfl
        have hd : doesP (mv c) f turnI [] = some [] := by simp [doesP, turnI]
        simp only [hx]
        simp only [show (0 : Int).toNat = 0 from rfl, List.getD_cons_zero, List.set_cons_zero]
        simp only [hd, Option.bind_some]
        simp only [turnI]
        simp
        have h01 : ((0 + 1 : Nat) : Int) = 1 := rfl
        rw [h01] at hc
        rw [hc]
        have : ((0 : Nat) : Int) = 0 := rfl
        rw [this, a1]
        rfl
      rw [hstep, Option.bind_some, funcs_mv hI l k1 k' hall h2]
      rfl
  · cases h
end Go.Ev
