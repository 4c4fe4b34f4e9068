/- Trees of expressions, without any program. -/
import Derived.Test.YtccenddkgeglmaaDoorL2
set_option linter.all false
set_option linter.unusedVariables false
set_option linter.unusedSimpArgs false
namespace Go.Ev

/-- A node of a tree. -/
inductive Nd where
  | mk (kind pos : Int) (name : Bs) (typ n size obj bits : Int) (kids : List Nd)
def Nd.kind : Nd → Int | ⟨k, _, _, _, _, _, _, _, _⟩ => k
def Nd.pos : Nd → Int | ⟨_, k, _, _, _, _, _, _, _⟩ => k
def Nd.name : Nd → Bs | ⟨_, _, k, _, _, _, _, _, _⟩ => k
def Nd.typ : Nd → Int | ⟨_, _, _, k, _, _, _, _, _⟩ => k
def Nd.n : Nd → Int | ⟨_, _, _, _, k, _, _, _, _⟩ => k
def Nd.size : Nd → Int | ⟨_, _, _, _, _, k, _, _, _⟩ => k
def Nd.obj : Nd → Int | ⟨_, _, _, _, _, _, k, _, _⟩ => k
def Nd.bits : Nd → Int | ⟨_, _, _, _, _, _, _, k, _⟩ => k
def Nd.kids : Nd → List Nd | ⟨_, _, _, _, _, _, _, _, k⟩ => k

/-- The token at the list's head; at the end, none's. -/
def hdT (E : Nat) : List Tok → Tok
  | [] => ⟨0, [], 0, 0, E⟩
  | t :: _ => t
def isT (ws : List Bs) : List Tok → Bool
  | [] => false
  | t :: _ => (decide (t.kind = 2) || decide (t.kind = 5)) && ws.contains t.text
abbrev PR := Except Err (Nd × List Tok)
/-- A parser of nodes: at so many levels, of these tokens. -/
abbrev PT := Nat → List Tok → PR

def binN (n : Nd) (op : Bs) (k : Nd) : Nd := .mk 31 n.pos op 0 0 0 0 0 [n, k]
def rowL (u : PT) (many : Bool) (ops : List Bs) (lv : Nat) : Nat → Nd → List Tok → PR
  | 0, _, _ => .error (0, 0)
  | f + 1, n, ts =>
    if isT ops ts then match u lv ts.tail with
      | .error e => .error e
      | .ok (k, ts') => if many then rowL u many ops lv f (binN n (hdT 0 ts).text k) ts' else .ok (binN n (hdT 0 ts).text k, ts')
    else .ok (n, ts)
def rowP (many : Bool) (ops : List Bs) (u : PT) : PT := fun lv ts =>
  match u lv ts with
  | .error e => .error e
  | .ok (n, ts') => rowL u many ops lv (ts'.length + 1) n ts'

/-- What stands between two marks, one level down. -/
def inP (E : Nat) (a b : Bs) (x : PT) : PT := fun lv ts =>
  if isT [a] ts then
    if lv = 16 then .error (3, (hdT E ts).pos)
    else match x (lv + 1) ts.tail with
      | .error e => .error e
      | .ok (k, ts') => if isT [b] ts' then .ok (k, ts'.tail) else .error (2, (hdT E ts').pos)
  else .error (2, (hdT E ts).pos)
def nameP (E : Nat) (x : PT) : PT := fun lv ts =>
  if isT [[91]] ts.tail then match inP E [91] [93] x lv ts.tail with
    | .error e => .error e
    | .ok (k, ts') => .ok (.mk 29 (hdT E ts).pos (hdT E ts).text 0 0 0 0 0 [k], ts')
  else .ok (.mk 28 (hdT E ts).pos (hdT E ts).text 0 0 0 0 0 [], ts.tail)
def primP (E : Nat) (x : PT) : PT := fun lv ts =>
  if (hdT E ts).kind = 3 then .ok (.mk 25 (hdT E ts).pos [] 0 (hdT E ts).n 0 0 0 [], ts.tail)
  else if (hdT E ts).kind = 4 then .ok (.mk 26 (hdT E ts).pos [] 0 0 0 0 (hdT E ts).bits [], ts.tail)
  else if (hdT E ts).kind = 1 then nameP E x lv ts
  else if isT [[116, 114, 117, 101]] ts then .ok (.mk 27 (hdT E ts).pos [] 0 1 0 0 0 [], ts.tail)
  else if isT [[102, 97, 108, 115, 101]] ts then .ok (.mk 27 (hdT E ts).pos [] 0 0 0 0 0 [], ts.tail)
  else if isT [[105, 110, 116], [102, 108, 111, 97, 116]] ts then match inP E [40] [41] x lv ts.tail with
    | .error e => .error e
    | .ok (k, ts') => .ok (.mk 30 (hdT E ts).pos (hdT E ts).text 0 0 0 0 0 [k], ts')
  else inP E [40] [41] x lv ts
def exprOf (u : PT) : PT :=
  rowP true [[124, 124]] (rowP true [[38, 38]] (rowP false [[61, 61], [33, 61], [60], [60, 61], [62], [62, 61]] (rowP true [[43], [45]] (rowP true [[42], [47], [37]] u))))
def unP (E : Nat) : Nat → PT
  | 0, _, _ => .error (0, 0)
  | f + 1, lv, ts =>
    if isT [[45], [33]] ts then
      if lv = 16 then .error (3, (hdT E ts).pos)
      else match unP E f (lv + 1) ts.tail with
        | .error e => .error e
        | .ok (k, ts') => .ok (.mk 30 (hdT E ts).pos (hdT E ts).text 0 0 0 0 0 [k], ts')
    else primP E (exprOf (unP E f)) lv ts
/-- A whole text by a parser. -/
def readP (p : Nat → Nat → PT) (s : Bs) : Except Err Nd :=
  match tokens s with
  | .error e => .error e
  | .ok ts => match p s.length (ts.length + 1) 0 ts with
    | .error e => .error e
    | .ok (n, []) => .ok n
    | .ok (_, t :: _) => .error (2, t.pos)
def exprP (E f : Nat) : PT := exprOf (unP E f)
def exprS (s : Bs) : Except Err Nd := readP exprP s

/-- Fuel is never short: a parser that, of fewer tokens than its fuel, gives an error of the document or takes tokens. -/
def Fine (m : Nat) (u : PT) : Prop := ∀ lv ts, ts.length ≤ m → match u lv ts with
  | .error e => e.1 = 2 ∨ e.1 = 3
  | .ok (_, ts') => ts'.length < ts.length
theorem isT_ne {ws : List Bs} {ts : List Tok} (h : isT ws ts = true) : ts ≠ [] := by rintro rfl; simp [isT] at h
theorem tail_lt {ts : List Tok} (h : ts ≠ []) : ts.tail.length < ts.length := by cases ts; exact absurd rfl h; simp
theorem rowL_fine {m : Nat} {u : PT} (hu : Fine m u) {many : Bool} {ops : List Bs} {lv : Nat} : ∀ (f : Nat) (n : Nd) (ts : List Tok), ts.length < f → ts.length ≤ m → match rowL u many ops lv f n ts with
    | .error e => e.1 = 2 ∨ e.1 = 3
    | .ok (_, ts') => ts'.length ≤ ts.length
  | 0, _, _, h, _ => absurd h (Nat.not_lt_zero _)
  | f + 1, n, ts, h, hm => by
    unfold rowL
    by_cases hi : isT ops ts = true
    · rw [if_pos hi]
      have ht := tail_lt (isT_ne hi)
      have h1 := hu lv ts.tail (by omega)
      cases hx : u lv ts.tail with
      | error e => rw [hx] at h1; exact h1
      | ok y =>
        obtain ⟨k, ts'⟩ := y
        rw [hx] at h1
        simp only at h1 ⊢
        cases many with
        | false => simp only [Bool.false_eq_true, if_false]; omega
        | true =>
          simp only [if_true]
          have h2 := rowL_fine hu (many := true) (ops := ops) (lv := lv) f (binN n (hdT 0 ts).text k) ts' (by omega) (by omega)
          revert h2
          cases rowL u true ops lv f (binN n (hdT 0 ts).text k) ts' with
          | error e => exact id
          | ok y => obtain ⟨_, z⟩ := y; intro h2; simp only at h2 ⊢; omega
    · rw [if_neg hi]; exact Nat.le_refl _
theorem rowP_fine {m : Nat} {u : PT} (hu : Fine m u) {many : Bool} {ops : List Bs} : Fine m (rowP many ops u) := by
  intro lv ts hm
  unfold rowP
  have h1 := hu lv ts hm
  cases hx : u lv ts with
  | error e => rw [hx] at h1; exact h1
  | ok y =>
    obtain ⟨n, ts'⟩ := y
    rw [hx] at h1
    simp only at h1 ⊢
    have h2 := rowL_fine hu (many := many) (ops := ops) (lv := lv) (ts'.length + 1) n ts' (by omega) (by omega)
    revert h2
    cases rowL u many ops lv (ts'.length + 1) n ts' with
    | error e => exact id
    | ok y => obtain ⟨_, z⟩ := y; intro h2; simp only at h2 ⊢; omega
theorem inP_fine {m E : Nat} {a b : Bs} {x : PT} (hx : Fine m x) : Fine (m + 1) (inP E a b x) := by
  intro lv ts hm
  unfold inP
  by_cases hi : isT [a] ts = true
  · rw [if_pos hi]
    have ht := tail_lt (isT_ne hi)
    by_cases hl : lv = 16
    · rw [if_pos hl]; exact .inr rfl
    · rw [if_neg hl]
      have h1 := hx (lv + 1) ts.tail (by omega)
      cases hy : x (lv + 1) ts.tail with
      | error e => rw [hy] at h1; exact h1
      | ok y =>
        obtain ⟨k, ts'⟩ := y
        rw [hy] at h1
        simp only at h1 ⊢
        by_cases hb : isT [b] ts' = true
        · rw [if_pos hb]
          have := tail_lt (isT_ne hb)
          simp only
          omega
        · rw [if_neg hb]; exact .inl rfl
  · rw [if_neg hi]; exact .inl rfl
theorem hdT_ne {E : Nat} {ts : List Tok} (h : (hdT E ts).kind ≠ 0) : ts ≠ [] := by rintro rfl; exact h rfl
theorem exprOf_fine {m : Nat} {u : PT} (hu : Fine m u) : Fine m (exprOf u) := rowP_fine (rowP_fine (rowP_fine (rowP_fine (rowP_fine hu))))
theorem primP_fine {m E : Nat} {x : PT} (hx : Fine m x) : Fine (m + 1) (primP E x) := by
  intro lv ts hm
  unfold primP
  by_cases h3 : (hdT E ts).kind = 3
  · rw [if_pos h3]; exact tail_lt (hdT_ne (E := E) (by omega))
  rw [if_neg h3]
  by_cases h4 : (hdT E ts).kind = 4
  · rw [if_pos h4]; exact tail_lt (hdT_ne (E := E) (by omega))
  rw [if_neg h4]
  by_cases h1 : (hdT E ts).kind = 1
  · rw [if_pos h1]
    have ht := tail_lt (hdT_ne (E := E) (ts := ts) (by omega))
    unfold nameP
    by_cases hb : isT [[91]] ts.tail = true
    · rw [if_pos hb]
      have h2 := inP_fine (E := E) (a := [91]) (b := [93]) hx lv ts.tail (by omega)
      cases hy : inP E [91] [93] x lv ts.tail with
      | error e => rw [hy] at h2; exact h2
      | ok y => obtain ⟨k, z⟩ := y; rw [hy] at h2; simp only at h2 ⊢; omega
    · rw [if_neg hb]; exact ht
  rw [if_neg h1]
  by_cases ht : isT [[116, 114, 117, 101]] ts = true
  · rw [if_pos ht]; exact tail_lt (isT_ne ht)
  rw [if_neg ht]
  by_cases hf : isT [[102, 97, 108, 115, 101]] ts = true
  · rw [if_pos hf]; exact tail_lt (isT_ne hf)
  rw [if_neg hf]
  by_cases hc : isT [[105, 110, 116], [102, 108, 111, 97, 116]] ts = true
  · rw [if_pos hc]
    have ht := tail_lt (isT_ne hc)
    have h2 := inP_fine (E := E) (a := [40]) (b := [41]) hx lv ts.tail (by omega)
    cases hy : inP E [40] [41] x lv ts.tail with
    | error e => rw [hy] at h2; exact h2
    | ok y => obtain ⟨k, z⟩ := y; rw [hy] at h2; simp only at h2 ⊢; omega
  rw [if_neg hc]
  exact inP_fine hx lv ts hm
theorem unP_fine {E : Nat} : ∀ f, Fine f (unP E (f + 1))
  | 0 => by
    intro lv ts hm
    have : ts = [] := List.length_eq_zero_iff.1 (by omega)
    subst this
    simp [unP, isT, primP, hdT, inP]
  | f + 1 => by
    intro lv ts hm
    rw [unP]
    by_cases hi : isT [[45], [33]] ts = true
    · rw [if_pos hi]
      have ht := tail_lt (isT_ne hi)
      by_cases hl : lv = 16
      · rw [if_pos hl]; exact .inr rfl
      · rw [if_neg hl]
        have h1 := unP_fine (E := E) f (lv + 1) ts.tail (by omega)
        cases hy : unP E (f + 1) (lv + 1) ts.tail with
        | error e => rw [hy] at h1; exact h1
        | ok y => obtain ⟨k, z⟩ := y; rw [hy] at h1; simp only at h1 ⊢; omega
    · rw [if_neg hi]
      exact primP_fine (exprOf_fine (unP_fine f)) lv ts hm
theorem exprP_fine {E : Nat} (f : Nat) : Fine f (exprP E (f + 1)) := exprOf_fine (unP_fine f)
end Go.Ev
