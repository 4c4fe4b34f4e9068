/- So many brackets in one another. -/
import Derived.Test.YtccenddkgeglmaaDoorL7
import Derived.Test.YtccenddkgeglmaaDoorL3
set_option linter.all false
set_option linter.unusedVariables false
set_option linter.unusedSimpArgs false
namespace Go.Ev

def wrapB (k : Nat) (s : Bs) : Bs :=
  if k = 0 then 40 :: (s ++ [41]) else if k = 1 then 45 :: s else if k = 2 then 97 :: 91 :: (s ++ [93]) else 105 :: 110 :: 116 :: 40 :: (s ++ [41])
/-- The text of so many brackets, the outermost first. -/
def levB : List Nat → Bs
  | [] => [120]
  | k :: ks => wrapB k (levB ks)
abbrev TokKT := Nat × Bs
def tokKT (t : Tok) : TokKT := (t.kind, t.text)
def levT : List Nat → List TokKT → List TokKT
  | [], r => (1, [120]) :: r
  | k :: ks, r =>
    if k = 0 then (5, [40]) :: levT ks ((5, [41]) :: r)
    else if k = 1 then (5, [45]) :: levT ks r
    else if k = 2 then (1, [97]) :: (5, [91]) :: levT ks ((5, [93]) :: r)
    else (2, [105, 110, 116]) :: (5, [40]) :: levT ks ((5, [41]) :: r)
/-- A text of closing marks. -/
def clo : Bs → List TokKT
  | [] => []
  | c :: r => (5, [c]) :: clo r
def Clo (r : Bs) : Prop := ∀ c ∈ r, c = 41 ∨ c = 93

theorem skip_id0 {l : Bs} (h : ∀ c r, l = c :: r → isBlank c = false ∧ c ≠ 47) : skip l = l := by
  have h1 : skip1 l = l := by
    cases l with
    | nil => rfl
    | cons c r =>
      obtain ⟨a, b⟩ := h c r rfl
      have : (c :: r).dropWhile isBlank = c :: r := by simp [List.dropWhile_cons, a]
      unfold skip1
      simp only [this]
      have hp : hasP (c :: r) [47, 47] = false := by
        simp only [hasP, beq_eq_false_iff_ne]
        intro e
        cases r <;> simp at e
        exact b e.1
      rw [hp]
      rfl
  unfold skip
  cases l with
  | nil => rfl
  | cons c r => simp [skipL, h1]

/-- What the lexer gives of a text: kinds and texts. -/
def LexK (l : Bs) (k : List TokKT) : Prop := skip l = l ∧ ∀ N f n, l.length < f → n + l.length ≤ 1900 → ∃ ts, toksL N f l n = .ok ts ∧ ts.map tokKT = k
theorem lex_nil : LexK [] [] := ⟨rfl, fun N f n hf _ => by
  cases f with
  | zero => exact absurd hf (by simp)
  | succ f => exact ⟨[], by simp [toksL], rfl⟩⟩
theorem lex_cons {l r : Bs} {kt : TokKT} {k : List TokKT} (hne : l ≠ []) (hs : skip l = l) (hr : r.length < l.length) (ht : ∀ N, ∃ t, nextTok N l = .ok (t, r) ∧ tokKT t = kt) (h : LexK r k) : LexK l (kt :: k) := by
  refine ⟨hs, fun N f n hf hn => ?_⟩
  cases f with
  | zero => exact absurd hf (by simp)
  | succ f =>
    obtain ⟨t, h1, h2⟩ := ht N
    obtain ⟨ts, h3, h4⟩ := h.2 N f (n + 1) (by omega) (by omega)
    refine ⟨t :: ts, ?_, by rw [List.map_cons, h2, h4]⟩
    have hl : 0 < l.length := List.length_pos_iff.2 hne
    rw [toksL, if_neg hne, if_neg (by omega), h1]
    simp only
    rw [h.1, h3]
theorem hd_skip {c : UInt8} {r : Bs} (h : isBlank c = false) (h2 : c ≠ 47) : skip (c :: r) = c :: r := skip_id0 fun c' r' e => by cases e; exact ⟨h, h2⟩
theorem lex_mark {c : UInt8} {r : Bs} {k : List TokKT} (hc : c = 40 ∨ c = 41 ∨ c = 45 ∨ c = 91 ∨ c = 93) (h : LexK r k) : LexK (c :: r) ((5, [c]) :: k) := by
  refine lex_cons (by simp) (hd_skip ?_ ?_) (by simp) (fun N => ?_) h
  · rcases hc with rfl | rfl | rfl | rfl | rfl <;> rfl
  · rcases hc with rfl | rfl | rfl | rfl | rfl <;> decide
  · refine ⟨⟨5, [c], 0, 0, N - (c :: r).length⟩, ?_, rfl⟩
    have hm : marks2.any (hasP (c :: r)) = false := by
      rcases hc with rfl | rfl | rfl | rfl | rfl <;> cases r <;> simp [marks2, hasP]
    have h1 : isLetter c = false := by rcases hc with rfl | rfl | rfl | rfl | rfl <;> rfl
    have h2 : isDigit c = false := by rcases hc with rfl | rfl | rfl | rfl | rfl <;> rfl
    have h3 : ¬ c.toNat = 35 := by rcases hc with rfl | rfl | rfl | rfl | rfl <;> decide
    have h4 : 0 ≤ findB c.toNat marks1 0 := by rcases hc with rfl | rfl | rfl | rfl | rfl <;> decide
    simp [nextTok, h1, h2, h3, markTok, hm, h4]
theorem lex_word {w r : Bs} {k : List TokKT} {kd : Nat} (hw : w ≠ []) (hl : headB isLetter w = true) (ha : ∀ c ∈ w, isWord c = true) (hn : w.length ≤ 24) (hr : headB isWord r = false) (hk : kd = if keys.contains w then 2 else 1) (h : LexK r k) : LexK (w ++ r) ((kd, w) :: k) := by
  have ht : (w ++ r).takeWhile isWord = w := by
    rw [List.takeWhile_append_of_pos ha]
    cases r with
    | nil => simp
    | cons c r => simp only [headB] at hr; simp [List.takeWhile_cons, hr]
  have hd : (w ++ r).dropWhile isWord = r := by
    rw [List.dropWhile_append_of_pos ha]
    cases r with
    | nil => simp
    | cons c r => simp only [headB] at hr; simp [List.dropWhile_cons, hr]
  cases w with
  | nil => exact absurd rfl hw
  | cons c w =>
    simp only [headB] at hl
    refine lex_cons (by simp) (hd_skip ?_ ?_) (by simp; omega) (fun N => ?_) h
    · revert hl; simp only [isLetter, isBlank]; simp; omega
    · rintro rfl; exact absurd hl (by decide)
    · refine ⟨⟨kd, c :: w, 0, 0, N - (c :: w ++ r).length⟩, ?_, rfl⟩
      have e : nextTok N (c :: w ++ r) = wordTok N (c :: w ++ r) := by simp [nextTok, hl]
      rw [e]
      simp only [wordTok, ht, hd, hk]
      rw [if_neg (by omega)]
theorem lex_clo : ∀ {r : Bs}, Clo r → LexK r (clo r)
  | [], _ => lex_nil
  | c :: r, h => lex_mark (by have := h c (by simp); rcases this with rfl | rfl <;> simp) (lex_clo fun d hd => h d (by simp [hd]))
theorem lex_lev : ∀ (ks : List Nat) {r : Bs} {k : List TokKT}, (r = [] ∨ ∃ c r', r = c :: r' ∧ (c = 41 ∨ c = 93)) → LexK r k → LexK (levB ks ++ r) (levT ks k)
  | [], r, k, hr, h => by
    refine lex_word (w := [120]) (by simp) rfl (by simp; rfl) (by simp) ?_ rfl h
    rcases hr with rfl | ⟨c, r', rfl, rfl | rfl⟩ <;> rfl
  | k0 :: ks, r, k, hr, h => by
    unfold levB levT wrapB
    have h41 : LexK (levB ks ++ 41 :: r) (levT ks ((5, [41]) :: k)) := lex_lev ks (.inr ⟨41, r, rfl, .inl rfl⟩) (lex_mark (by simp) h)
    have h93 : LexK (levB ks ++ 93 :: r) (levT ks ((5, [93]) :: k)) := lex_lev ks (.inr ⟨93, r, rfl, .inr rfl⟩) (lex_mark (by simp) h)
    split
    · have := lex_mark (c := 40) (by simp) h41
      simpa using this
    · split
      · exact lex_mark (c := 45) (by simp) (lex_lev ks hr h)
      · split
        · have := lex_word (w := [97]) (kd := 1) (by simp) rfl (by simp; rfl) (by simp) rfl rfl (lex_mark (c := 91) (by simp) h93)
          simpa using this
        · have := lex_word (w := [105, 110, 116]) (kd := 2) (by simp) rfl (by decide) (by simp) rfl rfl (lex_mark (c := 40) (by simp) h41)
          simpa using this

/-- Tokens that go on with a closing mark, or end. -/
def CloT (ts : List Tok) : Prop := ∀ t r, ts = t :: r → t.kind = 5 ∧ (t.text = [41] ∨ t.text = [93])
theorem CloT.not {ts : List Tok} (h : CloT ts) {ops : List Bs} (h1 : ops.contains [41] = false) (h2 : ops.contains [93] = false) : isT ops ts = false := by
  cases ts with
  | nil => rfl
  | cons t r =>
    obtain ⟨a, b | b⟩ := h t r rfl
    · simp only [isT, a, b, h1]; rfl
    · simp only [isT, a, b, h2]; rfl
theorem rowP_pass {u : PT} {many : Bool} {ops : List Bs} {lv : Nat} {ts ts' : List Tok} {n : Nd} (h : u lv ts = .ok (n, ts')) (h2 : isT ops ts' = false) : rowP many ops u lv ts = .ok (n, ts') := by
  unfold rowP
  rw [h]
  simp only
  rw [rowL, h2]
  rfl
theorem rowP_err {u : PT} {many : Bool} {ops : List Bs} {lv : Nat} {ts : List Tok} {e : Err} (h : u lv ts = .error e) : rowP many ops u lv ts = .error e := by
  unfold rowP
  rw [h]
theorem exprOf_pass {u : PT} {lv : Nat} {ts ts' : List Tok} {n : Nd} (h : u lv ts = .ok (n, ts')) (hc : CloT ts') : exprOf u lv ts = .ok (n, ts') :=
  rowP_pass (rowP_pass (rowP_pass (rowP_pass (rowP_pass h (hc.not rfl rfl)) (hc.not rfl rfl)) (hc.not rfl rfl)) (hc.not rfl rfl)) (hc.not rfl rfl)
theorem exprOf_err {u : PT} {lv : Nat} {ts : List Tok} {e : Err} (h : u lv ts = .error e) : exprOf u lv ts = .error e := rowP_err (rowP_err (rowP_err (rowP_err (rowP_err h))))

def CloK (k : List TokKT) : Prop := ∀ t r, k = t :: r → t = (5, [41]) ∨ t = (5, [93])
theorem CloK.toT {ts : List Tok} {k : List TokKT} (h : CloK k) (e : ts.map tokKT = k) : CloT ts := by
  rintro t r rfl
  rw [List.map_cons] at e
  have := h _ _ e.symm
  simpa [tokKT, and_or_left] using this
theorem map_cons_inv {ts : List Tok} {a : Nat} {b : Bs} {k : List TokKT} (h : ts.map tokKT = (a, b) :: k) : ∃ t r, ts = t :: r ∧ t.kind = a ∧ t.text = b ∧ r.map tokKT = k := by
  cases ts with
  | nil => simp at h
  | cons t r => simp only [List.map_cons, List.cons.injEq, tokKT, Prod.mk.injEq] at h; exact ⟨t, r, rfl, h.1.1, h.1.2, h.2⟩
def LevOk (lv m : Nat) (k : List TokKT) (r : PR) : Prop := if lv + m ≤ 16 then ∃ n ts', r = .ok (n, ts') ∧ ts'.map tokKT = k else ∃ p, r = .error (3, p)
theorem inP_lev {E : Nat} {a b : Bs} {x : PT} {lv m : Nat} {t : Tok} {ts : List Tok} {k : List TokKT} (hlv : lv ≤ 16) (ht : t.kind = 5) (hta : t.text = a) (hx : lv < 16 → LevOk (lv + 1) m ((5, b) :: k) (x (lv + 1) ts)) : LevOk lv (m + 1) k (inP E a b x lv (t :: ts)) := by
  have h1 : isT [a] (t :: ts) = true := by simp [isT, ht, hta]
  unfold inP LevOk
  rw [if_pos h1]
  by_cases h16 : lv = 16
  · rw [if_pos h16, if_neg (by omega)]
    exact ⟨_, rfl⟩
  · rw [if_neg h16]
    have := hx (by omega)
    unfold LevOk at this
    by_cases hm : lv + (m + 1) ≤ 16
    · rw [if_pos (by omega)] at this
      rw [if_pos hm]
      obtain ⟨n, ts', e, h2⟩ := this
      obtain ⟨t', r', rfl, h3, h4, h5⟩ := map_cons_inv h2
      have h6 : isT [b] (t' :: r') = true := by simp [isT, h3, h4]
      rw [List.tail_cons, e]
      simp only
      rw [if_pos h6]
      exact ⟨_, _, rfl, h5⟩
    · rw [if_neg (by omega)] at this
      rw [if_neg hm]
      obtain ⟨p, e⟩ := this
      rw [List.tail_cons, e]
      exact ⟨_, rfl⟩
theorem LevOk.expr {u : PT} {lv m : Nat} {ts : List Tok} {k : List TokKT} (hk : CloK k) (h : LevOk lv m k (u lv ts)) : LevOk lv m k (exprOf u lv ts) := by
  unfold LevOk at h ⊢
  split at h
  · obtain ⟨n, ts', e, h2⟩ := h
    rw [if_pos (by assumption)]
    exact ⟨n, ts', exprOf_pass e (hk.toT h2), h2⟩
  · obtain ⟨p, e⟩ := h
    rw [if_neg (by assumption)]
    exact ⟨p, exprOf_err e⟩
theorem LevOk.map {lv m : Nat} {k : List TokKT} {r : PR} (f : Nd → Nd) : LevOk lv m k r → LevOk lv m k (match r with | .error e => .error e | .ok (n, ts') => .ok (f n, ts')) := by
  intro h
  unfold LevOk at h ⊢
  split at h
  · obtain ⟨n, ts', rfl, h2⟩ := h
    rw [if_pos (by assumption)]
    exact ⟨_, _, rfl, h2⟩
  · obtain ⟨p, rfl⟩ := h
    rw [if_neg (by assumption)]
    exact ⟨p, rfl⟩
theorem LevOk.up {lv m : Nat} {k : List TokKT} {r : PR} (h : LevOk (lv + 1) m k r) : LevOk lv (m + 1) k r := by
  unfold LevOk at h ⊢
  rwa [show lv + (m + 1) = lv + 1 + m by omega]
theorem unP_lev {E : Nat} : ∀ (ks : List Nat) (f lv : Nat) (ts : List Tok) (k : List TokKT), ks.length < f → lv ≤ 16 → CloK k → ts.map tokKT = levT ks k → LevOk lv ks.length k (unP E f lv ts)
  | _, 0, _, _, _, h, _, _, _ => absurd h (Nat.not_lt_zero _)
  | [], f + 1, lv, ts, k, _, hlv, hk, e => by
    obtain ⟨t, r, rfl, h1, h2, h3⟩ := map_cons_inv (k := k) (a := 1) (b := [120]) e
    have hc := hk.toT h3
    have e1 : isT [[45], [33]] (t :: r) = false := by simp [isT, h1]
    have e2 : isT [[91]] r = false := hc.not rfl rfl
    unfold LevOk
    rw [if_pos (by simpa using hlv), unP, e1]
    simp only [Bool.false_eq_true, if_false, primP, hdT, h1, nameP, List.tail_cons, e2]
    exact ⟨_, _, rfl, h3⟩
  | k0 :: ks, f + 1, lv, ts, k, hf, hlv, hk, e => by
    have hks : ks.length < f := by simpa using hf
    have ck41 : CloK ((5, [41]) :: k) := by rintro t r e; cases e; exact .inl rfl
    have ck93 : CloK ((5, [93]) :: k) := by rintro t r e; cases e; exact .inr rfl
    rw [List.length_cons, unP]
    unfold levT at e
    split at e
    · obtain ⟨t, r, rfl, h1, h2, h3⟩ := map_cons_inv e
      have e1 : isT [[45], [33]] (t :: r) = false := by simp [isT, h2]
      have e3 : isT [[116, 114, 117, 101]] (t :: r) = false := by simp [isT, h2]
      have e4 : isT [[102, 97, 108, 115, 101]] (t :: r) = false := by simp [isT, h2]
      have e5 : isT [[105, 110, 116], [102, 108, 111, 97, 116]] (t :: r) = false := by simp [isT, h2]
      simp only [e1, Bool.false_eq_true, if_false, primP, hdT, h1, e3, e4, e5, Nat.reduceEqDiff]
      exact inP_lev hlv h1 h2 fun hl => LevOk.expr ck41 (unP_lev ks f (lv + 1) r _ hks (by omega) ck41 h3)
    · split at e
      · obtain ⟨t, r, rfl, h1, h2, h3⟩ := map_cons_inv e
        have e1 : isT [[45], [33]] (t :: r) = true := by simp [isT, h1, h2]
        rw [if_pos e1]
        by_cases h16 : lv = 16
        · rw [if_pos h16]
          unfold LevOk
          rw [if_neg (by omega)]
          exact ⟨_, rfl⟩
        · rw [if_neg h16, List.tail_cons]
          exact LevOk.map (fun n => .mk 30 (hdT E (t :: r)).pos (hdT E (t :: r)).text 0 0 0 0 0 [n]) (LevOk.up (unP_lev (E := E) ks f (lv + 1) r k hks (by omega) hk h3))
      · split at e
        · obtain ⟨t, r, rfl, h1, h2, h3⟩ := map_cons_inv e
          obtain ⟨t2, r2, rfl, g1, g2, g3⟩ := map_cons_inv h3
          have e1 : isT [[45], [33]] (t :: t2 :: r2) = false := by simp [isT, h1]
          have e2 : isT [[91]] (t2 :: r2) = true := by simp [isT, g1, g2]
          simp only [e1, Bool.false_eq_true, if_false, primP, hdT, h1, Nat.reduceEqDiff, if_true, nameP, List.tail_cons, e2]
          exact LevOk.map (fun n => .mk 29 t.pos t.text 0 0 0 0 0 [n]) (inP_lev hlv g1 g2 fun hl => LevOk.expr ck93 (unP_lev ks f (lv + 1) r2 _ hks (by omega) ck93 g3))
        · obtain ⟨t, r, rfl, h1, h2, h3⟩ := map_cons_inv e
          obtain ⟨t2, r2, rfl, g1, g2, g3⟩ := map_cons_inv h3
          have e1 : isT [[45], [33]] (t :: t2 :: r2) = false := by simp [isT, h2]
          have e3 : isT [[116, 114, 117, 101]] (t :: t2 :: r2) = false := by simp [isT, h2]
          have e4 : isT [[102, 97, 108, 115, 101]] (t :: t2 :: r2) = false := by simp [isT, h2]
          have e5 : isT [[105, 110, 116], [102, 108, 111, 97, 116]] (t :: t2 :: r2) = true := by simp [isT, h1, h2]
          simp only [e1, Bool.false_eq_true, if_false, primP, hdT, h1, Nat.reduceEqDiff, if_true, e3, e4, e5, List.tail_cons]
          exact LevOk.map (fun n => .mk 30 t.pos t.text 0 0 0 0 0 [n]) (inP_lev hlv g1 g2 fun hl => LevOk.expr ck41 (unP_lev ks f (lv + 1) r2 _ hks (by omega) ck41 g3))
theorem levT_len : ∀ (ks : List Nat) (k : List TokKT), ks.length < (levT ks k).length
  | [], k => by simp [levT]
  | k0 :: ks, k => by
    unfold levT
    have h1 := levT_len ks ((5, [41]) :: k)
    have h2 := levT_len ks ((5, [93]) :: k)
    have h3 := levT_len ks k
    split
    · simp only [List.length_cons] at *; omega
    · split
      · simp only [List.length_cons] at *; omega
      · split <;> simp only [List.length_cons] at * <;> omega
theorem levB_len : ∀ (ks : List Nat), (levB ks).length ≤ 1 + 5 * ks.length
  | [] => by simp [levB]
  | k0 :: ks => by
    have := levB_len ks
    unfold levB wrapB
    split
    · simp; omega
    · split
      · simp; omega
      · split <;> simp <;> omega
theorem lev_expr {ks : List Nat} (h : ks.length ≤ 100) : if ks.length ≤ 16 then ∃ n, exprS (levB ks) = .ok n else ∃ p, exprS (levB ks) = .error (3, p) := by
  have hl := levB_len ks
  obtain ⟨hs, hx⟩ := lex_lev ks (r := []) (k := []) (.inl rfl) lex_nil
  rw [List.append_nil] at hs hx
  obtain ⟨ts, h1, h2⟩ := hx (levB ks).length ((levB ks).length + 1) 0 (by omega) (by omega)
  have ht : tokens (levB ks) = .ok ts := by
    rw [tokens, if_neg (by omega), hs]
    exact h1
  have hlen := levT_len ks []
  rw [← h2, List.length_map] at hlen
  have hp := LevOk.expr (u := unP (levB ks).length (ts.length + 1)) (by rintro t r e; cases e) (unP_lev (E := (levB ks).length) ks (ts.length + 1) 0 ts [] (by omega) (by omega) (by rintro t r e; cases e) h2)
  unfold LevOk at hp
  rw [Nat.zero_add] at hp
  unfold exprS readP exprP
  rw [ht]
  simp only
  split at hp
  · obtain ⟨n, ts', e, h3⟩ := hp
    rw [if_pos (by assumption), e]
    have : ts' = [] := List.map_eq_nil_iff.1 h3
    subst this
    exact ⟨n, rfl⟩
  · obtain ⟨p, e⟩ := hp
    rw [if_neg (by assumption), e]
    exact ⟨p, rfl⟩
end Go.Ev
