/- Tokens, without any program: what the lexer computes. -/
set_option linter.all false
set_option linter.unusedVariables false
set_option linter.unusedSimpArgs false
namespace Go.Ev

def isBlank (c : UInt8) : Bool := decide (c.toNat = 32) || decide (c.toNat = 9) || decide (c.toNat = 10) || decide (c.toNat = 13)
def notNL (c : UInt8) : Bool := !decide (c.toNat = 10)

abbrev Bs := List UInt8

/-- A token: kind, text, its int, its bits, its place. -/
structure Tok where
  kind : Nat
  text : Bs
  n : Nat
  bits : Nat
  pos : Nat
  deriving DecidableEq, Inhabited

def hasP (a b : Bs) : Bool := a.take b.length == b

def skip1 (l : Bs) : Bs :=
  let l1 := l.dropWhile isBlank
  if hasP l1 [47, 47] then l1.dropWhile notNL else l1
def skipL : Nat → Bs → Bs
  | 0, l => l
  | n + 1, l => if (skip1 l).length = l.length then l else skipL n (skip1 l)
def skip (l : Bs) : Bs := skipL l.length l

end Go.Ev
/- Codes of instructions and the stacks at them, without any program. -/
namespace Go.Ev

structure Ins where
  op : Int
  a : Int
  b : Int
  bits : Int
  pos : Int
structure En where
  start : Int
  params : Int
  locals : List Int
structure Cd where
  places : List Int
  mutexes : Int
  atomics : Int
  chans : List (Int × Int)
  funcs : List En
  main : Int
  body : List Ins

def inside (n a b : Int) : Bool := decide (a ≤ n) && decide (n ≤ b)
def typB (t : Int) : Bool := inside t 1 3
def enOk (nb last : Int) (first : Bool) (f : En) : Bool :=
  decide (last < f.start) && (!first || f.start == 0) && decide (f.start < nb) && inside f.params 0 (min 4 (f.locals.length : Int)) && decide ((f.locals.length : Int) ≤ 32) && f.locals.all typB
def ensOk (nb : Int) : Int → Bool → List En → Bool
  | _, _, [] => true
  | last, first, f :: l => enOk nb last first f && ensOk nb f.start false l
/-- All but the instructions. -/
def headOk (c : Cd) : Bool :=
  decide ((c.places.length : Int) ≤ 128) && inside c.mutexes 0 32 && inside c.atomics 0 32 && decide (c.mutexes + c.atomics + c.chans.length ≤ 32) && decide ((c.funcs.length : Int) ≤ 16) && decide ((c.body.length : Int) ≤ 8192) && inside c.main 0 ((c.funcs.length : Int) - 1) && ((c.funcs.getD c.main.toNat ⟨0, 0, []⟩).params == 0)
def shapeB (c : Cd) : Bool :=
  headOk c && c.chans.all (fun x => typB x.1 && inside x.2 0 8) && ensOk c.body.length (-1) true c.funcs && c.places.all typB
def unaryL : List Bs := [[], [45], [33], [105, 110, 116], [102, 108, 111, 97, 116]]
def binaryL : List Bs := [[], [43], [45], [42], [47], [37], [61, 61], [33, 61], [60], [60, 61], [62], [62, 61]]
/-- The operator of a number. -/
def opName (op a : Int) : Bs := if a < 0 then [] else (if op = 10 then unaryL else if op = 11 then binaryL else []).getD a.toNat []
def arrayB (c : Cd) (first size : Int) : Bool :=
  inside size 1 64 && inside first 0 ((c.places.length : Int) - size) && ((c.places.drop first.toNat).take size.toNat).all (fun t => t == c.places.getD first.toNat 0)
/-- What an instruction must be, but its place. -/
def insB (c : Cd) (x : Ins) : Bool :=
  if x.op = 1 then decide (0 ≤ x.a) && x.b == 0 && x.bits == 0
  else if x.op = 2 then x.a == 0 && x.b == 0
  else if x.op = 3 then inside x.a 0 1 && x.b == 0 && x.bits == 0
  else if x.op = 4 ∨ x.op = 5 then inside x.a 0 31 && x.b == 0 && x.bits == 0
  else if x.op = 6 ∨ x.op = 7 then inside x.a 0 ((c.places.length : Int) - 1) && x.b == 0 && x.bits == 0
  else if x.op = 8 ∨ x.op = 9 then arrayB c x.a x.b && x.bits == 0
  else if x.op = 10 ∨ x.op = 11 then !(opName x.op x.a).isEmpty && x.b == 0 && x.bits == 0
  else if x.op = 12 then inside x.a 0 ((c.body.length : Int) - 1) && x.b == 0 && x.bits == 0
  else if x.op = 13 ∨ x.op = 14 then inside x.a 0 ((c.body.length : Int) - 1) && inside x.b 0 1 && x.bits == 0
  else if x.op = 15 ∨ x.op = 16 then inside x.a 0 (c.mutexes - 1) && x.b == 0 && x.bits == 0
  else if x.op = 17 ∨ x.op = 18 then inside x.a 0 ((c.chans.length : Int) - 1) && x.b == 0 && x.bits == 0
  else if x.op = 19 ∨ x.op = 20 ∨ x.op = 21 then inside x.a 0 (c.atomics - 1) && x.b == 0 && x.bits == 0
  else if x.op = 22 ∨ x.op = 23 then inside x.a 0 ((c.funcs.length : Int) - 1) && x.b == 0 && x.bits == 0
  else if x.op = 24 ∨ x.op = 25 ∨ x.op = 26 then x.a == 0 && x.b == 0 && x.bits == 0
  else false
def insOk (c : Cd) (x : Ins) : Bool := inside x.pos 0 8192 && insB c x
def formB (c : Cd) : Bool := shapeB c && c.body.all (insOk c)

/-- Types off a stack; one more; the top ones. -/
def popP (s types : List Int) : Option (List Int) := if types.length ≤ s.length ∧ s.drop (s.length - types.length) = types then some (s.take (s.length - types.length)) else none
def pushP (s : List Int) (t : Int) : Option (List Int) := if s.length < 64 then some (s ++ [t]) else none
def topP (s : List Int) (n : Nat) : Option (List Int) := if n ≤ s.length then some (s.drop (s.length - n)) else none
def numT (t : Int) : Bool := t == 1 || t == 2
/-- The type that an operator gives. -/
def operP (x : Ins) (types : List Int) : Option Int :=
  let t := types.getD 0 0
  if types.length = 1 ∨ types.getD 1 0 = t then
    let o := opName x.op x.a
    if x.op = 10 ∧ o = [45] then (if numT t then some t else none)
    else if x.op = 10 ∧ o = [33] then (if t = 3 then some t else none)
    else if o = [105, 110, 116] then (if t = 2 then some 1 else none)
    else if o = [102, 108, 111, 97, 116] then (if t = 1 then some 2 else none)
    else if o = [37] then (if t = 1 then some t else none)
    else if o = [61, 61] ∨ o = [33, 61] then some 3
    else if o = [60] ∨ o = [60, 61] ∨ o = [62] ∨ o = [62, 61] then (if numT t then some 3 else none)
    else (if numT t then some t else none)
  else none
/-- The stack behind an instruction. -/
def doesP (c : Cd) (f : En) (x : Ins) (s : List Int) : Option (List Int) :=
  if x.op = 1 ∨ x.op = 2 ∨ x.op = 3 then pushP s x.op
  else if x.op = 4 then (if x.a < f.locals.length then pushP s (f.locals.getD x.a.toNat 0) else none)
  else if x.op = 5 then (if x.a < f.locals.length then popP s [f.locals.getD x.a.toNat 0] else none)
  else if x.op = 6 then pushP s (c.places.getD x.a.toNat 0)
  else if x.op = 7 then popP s [c.places.getD x.a.toNat 0]
  else if x.op = 8 then (popP s [1]).bind fun s => pushP s (c.places.getD x.a.toNat 0)
  else if x.op = 9 then popP s [1, c.places.getD x.a.toNat 0]
  else if x.op = 10 ∨ x.op = 11 then (topP s (x.op - 9).toNat).bind fun ts => (popP s ts).bind fun s => (operP x ts).bind fun t => pushP s t
  else if x.op = 17 then popP s [(c.chans.getD x.a.toNat (0, 0)).1]
  else if x.op = 18 then pushP s (c.chans.getD x.a.toNat (0, 0)).1
  else if x.op = 19 then pushP s 1
  else if x.op = 20 ∨ x.op = 21 ∨ x.op = 26 then popP s [1]
  else if x.op = 22 ∨ x.op = 23 then popP s ((c.funcs.getD x.a.toNat ⟨0, 0, []⟩).locals.take (c.funcs.getD x.a.toNat ⟨0, 0, []⟩).params.toNat)
  else if x.op = 25 then (if s = [] then some s else none)
  else some s
/-- What is known: of each instruction its stack, if it was come to. -/
abbrev Kn := List (Option (List Int))
def zIns : Ins := ⟨0, 0, 0, 0, 0⟩
def comeP (c : Cd) (fn : En) (st en : Int) : Nat → Int → List Int → Kn → Option Kn
  | 0, _, _, _ => none
  | f + 1, at_, s, k =>
    if st ≤ at_ ∧ at_ < en then
      match k.getD at_.toNat none with
      | some s' => if s' = s then some k else none
      | none =>
        let k1 := k.set at_.toNat (some s)
        let x := c.body.getD at_.toNat zIns
        if (x.op = 12 ∨ x.op = 13 ∨ x.op = 14) ∧ ¬ (at_ < x.a ∨ (c.body.getD x.a.toNat zIns).op = 24) then none
        else if x.op = 12 then comeP c fn st en f x.a s k1
        else if x.op = 13 then (popP s [3]).bind fun s => (comeP c fn st en f x.a s k1).bind fun k => comeP c fn st en f (at_ + 1) s k
        else if x.op = 14 then (comeP c fn st en f x.a s k1).bind fun k => (popP s [3]).bind fun s => comeP c fn st en f (at_ + 1) s k
        else (doesP c fn x s).bind fun s => if x.op = 25 ∨ x.op = 26 then some k1 else comeP c fn st en f (at_ + 1) s k1
    else none
def funcsP (c : Cd) : List En → Kn → Option Kn
  | [], k => some k
  | f :: l, k => (comeP c f f.start (match l with | [] => c.body.length | g :: _ => g.start) (c.body.length + 1) f.start [] k).bind (funcsP c l)
def stacksP (c : Cd) : Option (List (List Int)) :=
  if formB c then (funcsP c c.funcs (List.replicate c.body.length none)).map fun k => k.map fun x => x.getD [] else none
end Go.Ev
/- Coming to instructions: how many are left. -/
namespace Go.Ev

/-- How many were not come to. -/
def left (k : Kn) : Nat := k.countP fun x => x.isNone
theorem left_set {k : Kn} {n : Nat} {s : List Int} (h : k[n]? = some none) : left (k.set n (some s)) + 1 = left k := by
  induction k generalizing n with
  | nil => simp at h
  | cons x k ih =>
    cases n with
    | zero =>
      simp at h
      subst h
      simp [left]
    | succ n =>
      have := ih (n := n) (by simpa using h)
      simp only [left] at this ⊢
      rw [List.set_cons_succ, List.countP_cons, List.countP_cons]
      omega
theorem getD_none {k : Kn} {n : Nat} (hn : n < k.length) (h : k.getD n none = none) : k[n]? = some none := by
  rw [List.getD_eq_getElem?_getD, List.getElem?_eq_getElem hn] at h
  rw [List.getElem?_eq_getElem hn]
  simpa using h
theorem comeP_left {c : Cd} {fn : En} {st en : Int} : ∀ (f : Nat) {at_ : Int} {s : List Int} {k k' : Kn}, (k.length : Int) ≥ en → 0 ≤ st → comeP c fn st en f at_ s k = some k' → k'.length = k.length ∧ left k' ≤ left k
  | 0, _, _, _, _, _, _, h => by cases h
  | f + 1, at_, s, k, k', he, h0, h => by
    rw [comeP] at h
    split at h
    · rename_i hin
      obtain ⟨n, rfl⟩ := Int.eq_ofNat_of_zero_le (show 0 ≤ at_ by omega)
      rw [Int.toNat_natCast] at h
      have hn : n < k.length := by omega
      split at h
      · split at h
        · cases h; exact ⟨rfl, Nat.le_refl _⟩
        · cases h
      · rename_i hk
        have hl := left_set (s := s) (getD_none hn hk)
        have he1 : ((k.set n (some s)).length : Int) ≥ en := by simpa using he
        simp only at h
        split at h
        · cases h
        split at h
        · have := comeP_left f he1 h0 h
          simp at this; omega
        split at h
        · cases hp : popP s [3] with
          | none => rw [hp] at h; cases h
          | some s1 =>
            rw [hp] at h
            simp only [Option.bind_some] at h
            cases hc : comeP c fn st en f (c.body.getD n zIns).a s1 (k.set n (some s)) with
            | none => rw [hc] at h; cases h
            | some k2 =>
              rw [hc] at h
              simp only [Option.bind_some] at h
              have a1 := comeP_left f he1 h0 hc
              simp at a1
              have a2 := comeP_left f (by rw [a1.1]; exact he) h0 h
              omega
        split at h
        · cases hc : comeP c fn st en f (c.body.getD n zIns).a s (k.set n (some s)) with
          | none => rw [hc] at h; cases h
          | some k2 =>
            rw [hc] at h
            simp only [Option.bind_some] at h
            cases hp : popP s [3] with
            | none => rw [hp] at h; cases h
            | some s1 =>
              rw [hp] at h
              simp only [Option.bind_some] at h
              have a1 := comeP_left f he1 h0 hc
              simp at a1
              have a2 := comeP_left f (by rw [a1.1]; exact he) h0 h
              omega
        · cases hd : doesP c fn (c.body.getD n zIns) s with
          | none => rw [hd] at h; cases h
          | some s1 =>
            rw [hd] at h
            simp only [Option.bind_some] at h
            split at h
            · cases h
              simp; omega
            · have a1 := comeP_left f he1 h0 h
              simp at a1
              omega
    · cases h
/-- Where the next function begins. -/
def nextSt (c : Cd) : List En → Int
  | [] => c.body.length
  | g :: _ => g.start
theorem funcsP_cons {c : Cd} {f : En} {l : List En} {k : Kn} : funcsP c (f :: l) k = (comeP c f f.start (nextSt c l) (c.body.length + 1) f.start [] k).bind fun k => funcsP c l k := by
  cases l <;> rfl
theorem push_len {s s' : List Int} {t : Int} (h : pushP s t = some s') : s'.length ≤ 64 := by
  unfold pushP at h
  split at h
  · cases h; simp only [List.length_append, List.length_cons, List.length_nil]; omega
  · cases h
theorem pop_len {s s' m : List Int} (h : popP s m = some s') : s'.length ≤ s.length := by
  unfold popP at h
  split at h
  · cases h; rw [List.length_take]; omega
  · cases h
theorem does_len {c : Cd} {fn : En} {x : Ins} {s s' : List Int} (hs : s.length ≤ 64) (h : doesP c fn x s = some s') : s'.length ≤ 64 := by
  unfold doesP at h
  by_cases g : x.op = 1 ∨ x.op = 2 ∨ x.op = 3
  · rw [if_pos g] at h
    exact push_len h
  rw [if_neg g] at h
  clear g
  by_cases g : x.op = 4
  · rw [if_pos g] at h
    by_cases q : x.a < fn.locals.length
    · rw [if_pos q] at h; exact push_len h
    · rw [if_neg q] at h; cases h
  rw [if_neg g] at h
  clear g
  by_cases g : x.op = 5
  · rw [if_pos g] at h
    by_cases q : x.a < fn.locals.length
    · rw [if_pos q] at h; exact Nat.le_trans (pop_len h) hs
    · rw [if_neg q] at h; cases h
  rw [if_neg g] at h
  clear g
  by_cases g : x.op = 6
  · rw [if_pos g] at h
    exact push_len h
  rw [if_neg g] at h
  clear g
  by_cases g : x.op = 7
  · rw [if_pos g] at h
    exact Nat.le_trans (pop_len h) hs
  rw [if_neg g] at h
  clear g
  by_cases g : x.op = 8
  · rw [if_pos g] at h
    obtain ⟨s1, _, h2⟩ := Option.bind_eq_some_iff.1 h
    exact push_len h2
  rw [if_neg g] at h
  clear g
  by_cases g : x.op = 9
  · rw [if_pos g] at h
    exact Nat.le_trans (pop_len h) hs
  rw [if_neg g] at h
  clear g
  by_cases g : x.op = 10 ∨ x.op = 11
  · rw [if_pos g] at h
    obtain ⟨s1, _, h2⟩ := Option.bind_eq_some_iff.1 h
    obtain ⟨s2, _, h3⟩ := Option.bind_eq_some_iff.1 h2
    obtain ⟨s3, _, h4⟩ := Option.bind_eq_some_iff.1 h3
    exact push_len h4
  rw [if_neg g] at h
  clear g
  by_cases g : x.op = 17
  · rw [if_pos g] at h
    exact Nat.le_trans (pop_len h) hs
  rw [if_neg g] at h
  clear g
  by_cases g : x.op = 18
  · rw [if_pos g] at h
    exact push_len h
  rw [if_neg g] at h
  clear g
  by_cases g : x.op = 19
  · rw [if_pos g] at h
    exact push_len h
  rw [if_neg g] at h
  clear g
  by_cases g : x.op = 20 ∨ x.op = 21 ∨ x.op = 26
  · rw [if_pos g] at h
    exact Nat.le_trans (pop_len h) hs
  rw [if_neg g] at h
  clear g
  by_cases g : x.op = 22 ∨ x.op = 23
  · rw [if_pos g] at h
    exact Nat.le_trans (pop_len h) hs
  rw [if_neg g] at h
  clear g
  by_cases g : x.op = 25
  · rw [if_pos g] at h
    by_cases q : s = []
    · rw [if_pos q] at h; cases h; exact hs
    · rw [if_neg q] at h; cases h
  rw [if_neg g] at h
  clear g
  cases h; exact hs
/-- No stack is long. -/
def SmallK (k : Kn) : Prop := ∀ (i : Nat) (s : List Int), k[i]? = some (some s) → s.length ≤ 64
theorem SmallK.set {k : Kn} (h : SmallK k) {n : Nat} {s : List Int} (hs : s.length ≤ 64) : SmallK (k.set n (some s)) := by
  intro i s' hi
  rw [List.getElem?_set] at hi
  split at hi
  · split at hi
    · cases hi; exact hs
    · cases hi
  · exact h i s' hi
theorem comeP_small {c : Cd} {fn : En} {st en : Int} : ∀ (f : Nat) {at_ : Int} {s : List Int} {k k' : Kn}, SmallK k → s.length ≤ 64 → comeP c fn st en f at_ s k = some k' → SmallK k'
  | 0, _, _, _, _, _, _, h => by cases h
  | f + 1, at_, s, k, k', hk, hs, h => by
    rw [comeP] at h
    split at h
    · split at h
      · split at h
        · cases h; exact hk
        · cases h
      · have h1 := hk.set (n := at_.toNat) hs
        simp only at h
        split at h
        · cases h
        split at h
        · exact comeP_small f h1 hs h
        split at h
        · obtain ⟨s1, a1, h2⟩ := Option.bind_eq_some_iff.1 h
          obtain ⟨k2, a2, h3⟩ := Option.bind_eq_some_iff.1 h2
          have := pop_len a1
          exact comeP_small f (comeP_small f h1 (by omega) a2) (by omega) h3
        split at h
        · obtain ⟨k2, a2, h3⟩ := Option.bind_eq_some_iff.1 h
          obtain ⟨s1, a1, h4⟩ := Option.bind_eq_some_iff.1 h3
          have := pop_len a1
          exact comeP_small f (comeP_small f h1 hs a2) (by omega) h4
        · obtain ⟨s1, a1, h3⟩ := Option.bind_eq_some_iff.1 h
          split at h3
          · cases h3; exact h1
          · exact comeP_small f h1 (does_len hs a1) h3
    · cases h
theorem funcsP_small {c : Cd} : ∀ {l : List En} {k k' : Kn}, SmallK k → funcsP c l k = some k' → SmallK k'
  | [], k, k', hk, h => by cases h; exact hk
  | f :: l, k, k', hk, h => by
    rw [funcsP_cons] at h
    obtain ⟨k1, a1, h2⟩ := Option.bind_eq_some_iff.1 h
    exact funcsP_small (comeP_small _ hk (Nat.zero_le _) a1) h2
theorem none_small {n : Nat} : SmallK (List.replicate n none) := by
  intro i s h
  rw [List.getElem?_replicate] at h
  split at h <;> cases h
end Go.Ev
/- A jump in a row of instructions, without any program. -/
namespace Go.Ev

def loopIns (N f t i : Nat) : Ins := if i = f then ⟨12, t, 0, 0, 0⟩ else ⟨if i = N then 25 else if i % 2 = 0 then 24 else 15, 0, 0, 0, 0⟩
def loopB (N f t : Nat) : List Ins := (List.range (N + 1)).map (loopIns N f t)
def loopC (N f t : Nat) : Cd := ⟨[], 1, 0, [], [⟨0, 0, []⟩], 0, loopB N f t⟩
theorem loopB_len {N f t : Nat} : (loopB N f t).length = N + 1 := by simp [loopB]
theorem loopB_at {N f t i : Nat} (h : i ≤ N) : (loopB N f t).getD i zIns = loopIns N f t i := by
  have : i < N + 1 := by omega
  simp [loopB, List.getD, this]
theorem getD_set {k : Kn} {n j : Nat} {x : Option (List Int)} : (k.set n x).getD j none = if n = j then (if j < k.length then x else none) else k.getD j none := by
  rw [List.getD_eq_getElem?_getD, List.getElem?_set, List.getD_eq_getElem?_getD]
  split
  · rename_i e
    subst e
    split <;> rfl
  · rfl
theorem walkA {N f t : Nat} {fn : En} : ∀ (d n fuel : Nat) (k : Kn), n + d = N → (∀ j, n ≤ j → j ≤ N → k.getD j none = none) → (∀ j, n ≤ j → j ≤ N → j ≠ f) → d < fuel → (comeP (loopC N f t) fn 0 ((N : Int) + 1) fuel n [] k).isSome = true
  | d, n, 0, k, _, _, _, h => absurd h (Nat.not_lt_zero _)
  | d, n, fuel + 1, k, hd, hk, hf, hfu => by
    have hn := hk n (Nat.le_refl _) (by omega)
    have hnf := hf n (Nat.le_refl _) (by omega)
    have hx : (loopC N f t).body.getD n zIns = ⟨if n = N then 25 else if n % 2 = 0 then 24 else 15, 0, 0, 0, 0⟩ := by
      show (loopB N f t).getD n zIns = _
      rw [loopB_at (by omega), loopIns, if_neg hnf]
    rw [comeP, if_pos (by omega), Int.toNat_natCast, hn]
    simp only [hx]
    by_cases hN : n = N
    · simp [hN, doesP]
    · have hop : (if n = N then (25 : Int) else if n % 2 = 0 then 24 else 15) = if n % 2 = 0 then 24 else 15 := if_neg hN
      rw [hop]
      cases d with
      | zero => omega
      | succ d =>
        have ih := walkA (N := N) (f := f) (t := t) (fn := fn) d (n + 1) fuel (k.set n (some [])) (by omega) (fun j h1 h2 => by rw [getD_set, if_neg (by omega)]; exact hk j (by omega) h2) (fun j h1 h2 => hf j (by omega) h2) (by omega)
        by_cases he : n % 2 = 0
        · simp [he, doesP]
          exact ih
        · simp [he, doesP]
          exact ih
theorem walkB {N f t : Nat} {fn : En} (hfN : f < N) (htN : t ≤ N) : ∀ (d n fuel : Nat) (k : Kn), n + d = f → k.length = N + 1 → (∀ j, n ≤ j → j ≤ N → k.getD j none = none) → (∀ j, j < n → k.getD j none = some []) → N + 1 < fuel + n → (comeP (loopC N f t) fn 0 ((N : Int) + 1) fuel n [] k).isSome = decide (f < t ∨ (t < f ∧ t % 2 = 0))
  | d, n, 0, k, _, _, _, _, h => by omega
  | d, n, fuel + 1, k, hd, hl, hk, hp, hfu => by
    have hn := hk n (Nat.le_refl _) (by omega)
    have hx : (loopC N f t).body.getD n zIns = loopIns N f t n := loopB_at (by omega)
    rw [comeP, if_pos (by omega), Int.toNat_natCast, hn]
    simp only [hx]
    by_cases hnf : n = f
    · subst hnf
      have ht : (loopC N n t).body.getD t zIns = loopIns N n t t := loopB_at htN
      rw [show loopIns N n t n = ⟨12, t, 0, 0, 0⟩ from if_pos rfl]
      simp only [Int.toNat_natCast, ht]
      by_cases h1 : n < t
      · have h1' : (n : Int) < (t : Int) := by omega
        rw [if_neg (by simp [h1'])]
        simp only [if_true]
        rw [walkA (N - t) t fuel _ (by omega) (fun j a b => by rw [getD_set, if_neg (by omega)]; exact hk j (by omega) b) (fun j a b => by omega) (by omega)]
        simp [h1]
      · by_cases h2 : t = n
        · subst h2
          rw [if_pos (by simp [loopIns])]
          simp
        · have hop : (loopIns N n t t).op = if t % 2 = 0 then 24 else 15 := by
            rw [loopIns, if_neg h2]
            simp only
            rw [if_neg (by omega)]
          by_cases he : t % 2 = 0
          · rw [if_neg (by rw [hop, if_pos he]; simp)]
            simp only [if_true]
            cases fuel with
            | zero => omega
            | succ fuel =>
              rw [comeP, if_pos (by omega), Int.toNat_natCast]
              have : (k.set n (some [])).getD t none = some [] := by
                rw [getD_set, if_neg (by omega)]; exact hp t (by omega)
              rw [this]
              have : t < n := by omega
              simp [he, this]
          · have h1' : ¬ (n : Int) < (t : Int) := by omega
            rw [if_pos (by rw [hop, if_neg he]; simp [h1'])]
            simp [h1, he]
    · rw [show loopIns N f t n = ⟨if n = N then 25 else if n % 2 = 0 then 24 else 15, 0, 0, 0, 0⟩ from if_neg hnf]
      have hop : (if n = N then (25 : Int) else if n % 2 = 0 then 24 else 15) = if n % 2 = 0 then 24 else 15 := if_neg (by omega)
      rw [hop]
      cases d with
      | zero => omega
      | succ d =>
        have ih := walkB (fn := fn) hfN htN d (n + 1) fuel (k.set n (some [])) (by omega) (by simpa using hl) (fun j h1 h2 => by rw [getD_set, if_neg (by omega)]; exact hk j (by omega) h2) (fun j h1 => by
          rw [getD_set]
          split
          · rw [if_pos (by omega)]
          · exact hp j (by omega)) (by omega)
        by_cases he : n % 2 = 0
        · simp [he, doesP]
          simpa using ih
        · simp [he, doesP]
          simpa using ih
theorem loop_form {N f t : Nat} (h1 : 1 ≤ N) (h2 : N ≤ 30) (ht : t ≤ N) : formB (loopC N f t) = true := by
  have hb : (loopC N f t).body = loopB N f t := rfl
  have hs : shapeB (loopC N f t) = true := by
    have hbl : (((loopC N f t).body.length : Nat) : Int) = N + 1 := by rw [hb, loopB_len]; omega
    simp only [shapeB, headOk, hbl]
    simp [loopC, ensOk, enOk, inside]
    omega
  have hi : (loopC N f t).body.all (insOk (loopC N f t)) = true := by
    rw [List.all_eq_true]
    intro x hx
    rw [hb, loopB, List.mem_map] at hx
    obtain ⟨i, hi, rfl⟩ := hx
    rw [List.mem_range] at hi
    have hbl : (((loopC N f t).body.length : Nat) : Int) = N + 1 := by rw [hb, loopB_len]; omega
    by_cases e : i = f
    · rw [loopIns, if_pos e]
      simp [insOk, insB, inside, hbl]
      omega
    · rw [loopIns, if_neg e]
      by_cases e2 : i = N
      · simp [insOk, insB, inside, e2]
      · by_cases e3 : i % 2 = 0
        · simp [insOk, insB, inside, e2, e3]
        · simp [insOk, insB, inside, e2, e3, loopC]
  simp [formB, hs, hi]
theorem loops_pure {N f t : Nat} (h1 : 1 ≤ N) (h2 : N ≤ 30) (hf : f < N) (ht : t ≤ N) : (stacksP (loopC N f t)).isSome = decide (f < t ∨ (t < f ∧ t % 2 = 0)) := by
  rw [stacksP, if_pos (loop_form h1 h2 ht), Option.isSome_map]
  have hb : (loopC N f t).body.length = N + 1 := loopB_len
  show (funcsP (loopC N f t) [⟨0, 0, []⟩] _).isSome = _
  rw [funcsP_cons, hb]
  have hn : nextSt (loopC N f t) [] = (N : Int) + 1 := by
    show (((loopC N f t).body.length : Nat) : Int) = _
    rw [hb]; omega
  rw [hn]
  have := walkB (fn := ⟨0, 0, []⟩) hf ht f 0 (N + 1 + 1) (List.replicate (N + 1) none) (by omega) (by simp) (fun j _ hj => by rw [List.getD_eq_getElem?_getD, List.getElem?_replicate]; split <;> rfl) (fun j hj => absurd hj (Nat.not_lt_zero _)) (by omega)
  rw [← this]
  show (Option.bind (comeP _ _ 0 _ _ 0 _ _) _).isSome = _
  cases comeP (loopC N f t) ⟨0, 0, []⟩ 0 ((N : Int) + 1) (N + 1 + 1) ((0 : Nat) : Int) [] (List.replicate (N + 1) none) <;> rfl
end Go.Ev
