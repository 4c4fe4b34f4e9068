/- Tokens, without any program: blanks ahead of a text move all places. -/
import Derived.Test.YtccenddkgeglmaaDoorL3
set_option linter.all false
set_option linter.unusedVariables false
set_option linter.unusedSimpArgs false
namespace Go.Ev

theorem dropWhile_blanks {b s : Bs} (hb : b.all isBlank = true) : (b ++ s).dropWhile isBlank = s.dropWhile isBlank := by
  induction b with
  | nil => rfl
  | cons c b ih =>
    simp only [List.all_cons, Bool.and_eq_true] at hb
    rw [List.cons_append, List.dropWhile_cons, if_pos hb.1, ih hb.2]
theorem skip1_le (l : Bs) : (skip1 l).length ≤ l.length := by
  unfold skip1
  simp only
  have h1 := (List.dropWhile_suffix isBlank (l := l)).length_le
  split
  · exact Nat.le_trans (List.dropWhile_suffix notNL (l := l.dropWhile isBlank)).length_le h1
  · exact h1
theorem skip1_suf' (l : Bs) : skip1 l <:+ l := by
  unfold skip1
  simp only
  split
  · exact (List.dropWhile_suffix _).trans (List.dropWhile_suffix _)
  · exact List.dropWhile_suffix _
theorem skipL_fuel' : ∀ (n m : Nat) (l : Bs), l.length ≤ n → l.length ≤ m → skipL n l = skipL m l := by
  intro n
  induction n with
  | zero =>
    intro m l h1 _
    have hl : l = [] := List.length_eq_zero_iff.1 (by omega)
    subst hl
    cases m with
    | zero => rfl
    | succ m => simp [skipL, skip1, hasP]
  | succ n ih =>
    intro m l h1 h2
    cases m with
    | zero =>
      have hl : l = [] := List.length_eq_zero_iff.1 (by omega)
      subst hl
      simp [skipL, skip1, hasP]
    | succ m =>
      simp only [skipL]
      split
      · rfl
      · rename_i hne
        have := skip1_le l
        exact ih m _ (by omega) (by omega)
theorem skip_eq' (l : Bs) : skip l = if (skip1 l).length = l.length then l else skip (skip1 l) := by
  have h : skip l = skipL (l.length + 1) l := skipL_fuel' _ _ _ (Nat.le_refl _) (by omega)
  rw [h]
  simp only [skipL]
  split
  · rfl
  · exact skipL_fuel' _ _ _ (skip1_le l) (Nat.le_refl _)
/-- Skipping once makes no difference. -/
theorem skip_skip1 (l : Bs) : skip (skip1 l) = skip l := by
  rw [skip_eq' l]
  split
  · rename_i h
    rw [(skip1_suf' l).eq_of_length h]
    rw [skip_eq', if_pos h]
  · rfl
theorem skip_blanks {b s : Bs} (hb : b.all isBlank = true) : skip (b ++ s) = skip s := by
  have h : skip1 (b ++ s) = skip1 s := by simp only [skip1, dropWhile_blanks hb]
  rw [← skip_skip1 (b ++ s), h, skip_skip1]
theorem skip_suf' (l : Bs) : skip l <:+ l := by
  suffices ∀ n (l : Bs), l.length ≤ n → skip l <:+ l from this _ l (Nat.le_refl _)
  intro n
  induction n with
  | zero =>
    intro l h
    have hl : l = [] := List.length_eq_zero_iff.1 (by omega)
    subst hl
    exact List.suffix_refl _
  | succ n ih =>
    intro l h
    rw [skip_eq']
    split
    · exact List.suffix_refl _
    · have := skip1_le l
      exact (ih _ (by omega)).trans (skip1_suf' l)

def Tok.move (m : Nat) (t : Tok) : Tok := { t with pos := t.pos + m }
def moveE (m : Nat) {α β : Type} (f : α → β) : Except Err α → Except Err β
  | .ok x => .ok (f x)
  | .error (e, p) => .error (e, p + m)

theorem aloneE_move {N m : Nat} {l : Bs} {t : Tok} (hl : l.length ≤ N) : aloneE (N + m) l (t.move m) = moveE m (fun x : Tok × Bs => (x.1.move m, x.2)) (aloneE N l t) := by
  unfold aloneE
  split
  · simp only [moveE]; congr 2; omega
  · rfl
theorem next_move {N m : Nat} {l : Bs} (hl : l.length ≤ N) : nextTok (N + m) l = moveE m (fun x : Tok × Bs => (x.1.move m, x.2)) (nextTok N l) := by
  have hp : N + m - l.length = N - l.length + m := by omega
  cases l with
  | nil =>
    simp only [nextTok, moveE]
  | cons c l =>
    simp only [nextTok]
    split
    · simp only [wordTok]
      split
      · simp only [moveE, hp]
      · simp only [moveE, hp, Tok.move]
    · split
      · rw [numTok_eq, numTok_eq]
        split
        · have hr : (numRest (c :: l)).length ≤ N := by
            have : (numRest (c :: l)).length ≤ (c :: l).length := by
              unfold numRest
              split
              · exact (List.drop_suffix 1 _).length_le
              · exact (List.dropWhile_suffix _).length_le
            omega
          rw [← aloneE_move hr]
          simp only [Tok.move, hp]
        · simp only [moveE, hp]
      · split
        · simp only [fltTok]
          split
          · have hr : ((c :: l).drop 17).length ≤ N := by rw [List.length_drop]; omega
            rw [← aloneE_move hr]
            simp only [Tok.move, hp]
          · simp only [moveE, hp]
        · simp only [markTok]
          split
          · simp only [moveE, hp, Tok.move]
          · split
            · simp only [moveE, hp, Tok.move]
            · simp only [moveE, hp]

theorem toksL_fuel {N : Nat} : ∀ (f f' : Nat) (l : Bs) (n : Nat), l.length < f → l.length < f' → toksL N f l n = toksL N f' l n := by
  intro f
  induction f with
  | zero => intro f' l n h; omega
  | succ f ih =>
    intro f' l n h h'
    obtain ⟨g, rfl⟩ : ∃ g, f' = g + 1 := ⟨f' - 1, by omega⟩
    simp only [toksL]
    split
    · rfl
    · split
      · rfl
      · cases hx : nextTok N l with
        | error e => rfl
        | ok x =>
          obtain ⟨t, r⟩ := x
          have h1 := nextTok_len hx
          have h2 := (skip_suf' r).length_le
          simp only
          rw [ih g (skip r) (n + 1) (by omega) (by omega)]
theorem toksL_move {N m : Nat} : ∀ (f : Nat) (l : Bs) (n : Nat), l.length ≤ N → l.length < f → toksL (N + m) f l n = moveE m (List.map (Tok.move m)) (toksL N f l n) := by
  intro f
  induction f with
  | zero => intro l n _ h; omega
  | succ f ih =>
    intro l n hl hf
    simp only [toksL]
    split
    · rfl
    · split
      · simp only [moveE]; congr 2; omega
      · rw [next_move hl]
        cases hx : nextTok N l with
        | error e => obtain ⟨e, p⟩ := e; rfl
        | ok x =>
          obtain ⟨t, r⟩ := x
          have h1 := nextTok_len hx
          have h2 := (skip_suf' r).length_le
          simp only [moveE]
          rw [ih (skip r) (n + 1) (by omega) (by omega)]
          cases toksL N f (skip r) (n + 1) with
          | error e => obtain ⟨e, p⟩ := e; rfl
          | ok ts => rfl
theorem tokens_blanks {b s : Bs} (hb : b.all isBlank = true) (hl : b.length + s.length ≤ 8192) : tokens (b ++ s) = moveE b.length (List.map (Tok.move b.length)) (tokens s) := by
  have h1 := (skip_suf' s).length_le
  rw [tokens, tokens, if_neg (by rw [List.length_append]; omega), if_neg (by omega), skip_blanks hb, List.length_append, Nat.add_comm b.length s.length, toksL_fuel _ (s.length + 1) _ _ (by omega) (by omega), toksL_move _ _ _ h1 (by omega)]

/-- The statement's blanks. -/
def blk (k : Nat) : Bs := (List.range k).map fun i => [32, 10, 9, 13].getD (i % 4) 0
theorem blk_len (k : Nat) : (blk k).length = k := by simp [blk]
theorem blk_succ (k : Nat) : blk (k + 1) = blk k ++ [[32, 10, 9, 13].getD (k % 4) 0] := by simp [blk, List.range_succ]
theorem blk_all (k : Nat) : (blk k).all isBlank = true := by
  simp only [blk, List.all_map, List.all_eq_true]
  intro i _
  have h : ∀ j, j < 4 → isBlank ([32, 10, 9, 13].getD j 0) = true := by decide
  exact h _ (Nat.mod_lt _ (by decide))

def okErr (N : Nat) {α : Type} : Except Err α → Prop
  | .ok _ => True
  | .error (e, p) => (1 ≤ e ∧ e ≤ 17) ∧ p ≤ N
theorem aloneE_err {N : Nat} {l : Bs} {t : Tok} : okErr N (aloneE N l t) := by
  unfold aloneE
  split
  · exact ⟨by decide, by omega⟩
  · trivial
theorem next_err {N : Nat} {l : Bs} : okErr N (nextTok N l) := by
  cases l with
  | nil => exact ⟨by decide, Nat.le_refl _⟩
  | cons c l =>
    simp only [nextTok]
    split
    · simp only [wordTok]
      split
      · exact ⟨by decide, by omega⟩
      · trivial
    · split
      · rw [numTok_eq]
        split
        · exact aloneE_err
        · exact ⟨by decide, by omega⟩
      · split
        · simp only [fltTok]
          split
          · exact aloneE_err
          · exact ⟨by decide, by omega⟩
        · simp only [markTok]
          split
          · trivial
          · split
            · trivial
            · exact ⟨by decide, by omega⟩
theorem toksL_err {N : Nat} : ∀ (f : Nat) (l : Bs) (n : Nat), l.length < f → okErr N (toksL N f l n) := by
  intro f
  induction f with
  | zero => intro l n h; omega
  | succ f ih =>
    intro l n hf
    simp only [toksL]
    split
    · trivial
    · split
      · exact ⟨by decide, by omega⟩
      · have h0 := next_err (N := N) (l := l)
        cases hx : nextTok N l with
        | error e => rw [hx] at h0; exact h0
        | ok x =>
          obtain ⟨t, r⟩ := x
          have h1 := nextTok_len hx
          have h2 := (skip_suf' r).length_le
          have h3 := ih (skip r) (n + 1) (by omega)
          simp only
          cases hy : toksL N f (skip r) (n + 1) with
          | error e => rw [hy] at h3; exact h3
          | ok ts => trivial
theorem tokens_err (s : Bs) : okErr s.length (tokens s) := by
  unfold tokens
  split
  · exact ⟨by decide, by omega⟩
  · exact toksL_err _ _ _ (by have := (skip_suf' s).length_le; omega)
theorem toksL_len {N : Nat} : ∀ (f : Nat) (l : Bs) (n : Nat) (ts : List Tok), n ≤ 2000 → toksL N f l n = .ok ts → n + ts.length ≤ 2000 := by
  intro f
  induction f with
  | zero => intro l n ts _ h; cases h
  | succ f ih =>
    intro l n ts hn h
    simp only [toksL] at h
    split at h
    · cases h; simpa using hn
    · split at h
      · cases h
      · cases hx : nextTok N l with
        | error e => rw [hx] at h; cases h
        | ok x =>
          obtain ⟨t, r⟩ := x
          rw [hx] at h
          simp only at h
          cases hy : toksL N f (skip r) (n + 1) with
          | error e => rw [hy] at h; cases h
          | ok us =>
            rw [hy] at h
            cases h
            have := ih (skip r) (n + 1) us (by omega) hy
            simp only [List.length_cons]
            omega
theorem tokens_len {s : Bs} {ts : List Tok} (h : tokens s = .ok ts) : ts.length ≤ 2000 := by
  unfold tokens at h
  split at h
  · cases h
  · have := toksL_len _ _ _ _ (by decide) h
    omega

theorem toksL_pos {N : Nat} : ∀ (f : Nat) (l : Bs) (n : Nat) (ts : List Tok), toksL N f l n = .ok ts → ∀ t ∈ ts, t.pos ≤ N := by
  intro f
  induction f with
  | zero => intro l n ts h; cases h
  | succ f ih =>
    intro l n ts h
    simp only [toksL] at h
    split at h
    · cases h; intro t ht; cases ht
    · split at h
      · cases h
      · cases hx : nextTok N l with
        | error e => rw [hx] at h; cases h
        | ok x =>
          obtain ⟨t, r⟩ := x
          rw [hx] at h
          simp only at h
          cases hy : toksL N f (skip r) (n + 1) with
          | error e => rw [hy] at h; cases h
          | ok us =>
            rw [hy] at h
            cases h
            intro t' ht
            rcases List.mem_cons.1 ht with rfl | ht
            · have := (nextTok_ok hx).2.2
              omega
            · exact ih _ _ _ hy t' ht
theorem tokens_pos {s : Bs} {ts : List Tok} (h : tokens s = .ok ts) : ∀ t ∈ ts, t.pos ≤ s.length := by
  unfold tokens at h
  split at h
  · cases h
  · exact toksL_pos _ _ _ _ h
/-- A list whose first elements have been moved. -/
def half (m : Nat) (ts : List Tok) (i : Nat) : List Tok := (ts.take i).map (Tok.move m) ++ ts.drop i
theorem half_get {m i : Nat} {ts : List Tok} {t : Tok} (h : ts[i]? = some t) : (half m ts i)[i]? = some t := by
  obtain ⟨hi, rfl⟩ := List.getElem?_eq_some_iff.1 h
  have hl : ((ts.take i).map (Tok.move m)).length = i := by rw [List.length_map, List.length_take]; omega
  rw [half, List.getElem?_append_right (by omega), hl, Nat.sub_self, List.getElem?_drop, Nat.add_zero, List.getElem?_eq_getElem hi]
theorem half_set {m i : Nat} {ts : List Tok} {t : Tok} (h : ts[i]? = some t) : (half m ts i).set i (t.move m) = half m ts (i + 1) := by
  obtain ⟨hi, rfl⟩ := List.getElem?_eq_some_iff.1 h
  have hl : ((ts.take i).map (Tok.move m)).length = i := by rw [List.length_map, List.length_take]; omega
  rw [half, List.set_append_right _ _ (by omega), hl, Nat.sub_self, List.drop_eq_getElem_cons hi, List.set_cons_zero, half, List.take_succ_eq_append_getElem hi, List.map_append, List.append_assoc]
  rfl
theorem half_zero (m : Nat) (ts : List Tok) : half m ts 0 = ts := by simp [half]
end Go.Ev
