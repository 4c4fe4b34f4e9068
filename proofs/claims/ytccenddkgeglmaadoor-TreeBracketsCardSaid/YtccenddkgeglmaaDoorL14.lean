/- Tokens of a text in brackets, without any program. -/
import Derived.Test.YtccenddkgeglmaaDoorL13
import Derived.Test.YtccenddkgeglmaaDoorL5
set_option linter.all false
set_option linter.unusedVariables false
set_option linter.unusedSimpArgs false
namespace Go.Ev

theorem tw_clo {p : UInt8 → Bool} (hp : p 41 = false) : ∀ (l : Bs), (l ++ [41]).takeWhile p = l.takeWhile p ∧ (l ++ [41]).dropWhile p = l.dropWhile p ++ [41]
  | [] => by simp [List.takeWhile_cons, List.dropWhile_cons, hp]
  | c :: l => by
    obtain ⟨h1, h2⟩ := tw_clo hp l
    simp only [List.cons_append, List.takeWhile_cons, List.dropWhile_cons]
    cases p c <;> simp [h1, h2]
theorem hb_clo {p : UInt8 → Bool} (hp : p 41 = false) {l : Bs} (h : headB p l = false) : headB p (l ++ [41]) = false := by
  cases l with
  | nil => exact hp
  | cons c l => exact h
theorem aloneE_clo {N N' : Nat} {l r : Bs} {x y t : Tok} (h : aloneE N l x = .ok (t, r)) : aloneE N' (l ++ [41]) y = .ok (y, r ++ [41]) := by
  obtain ⟨_, rfl, h3⟩ := aloneE_ok h
  unfold aloneE
  rw [hb_clo rfl h3]
  rfl
theorem marks2_clo {c : UInt8} {l : Bs} : marks2.any (hasP (c :: (l ++ [41]))) = marks2.any (hasP (c :: l)) := by
  cases l with
  | nil => simp [marks2, hasP]
  | cons d l => simp [marks2, hasP]
theorem next_clo {N N' : Nat} {l r : Bs} {t : Tok} (h : nextTok N l = .ok (t, r)) : nextTok N' (l ++ [41]) = .ok ({ t with pos := N' - (l.length + 1) }, r ++ [41]) := by
  cases l with
  | nil => cases h
  | cons c l =>
    have hL : (c :: l ++ [41]).length = (c :: l).length + 1 := by simp
    have hnext : nextTok N' (c :: l ++ [41]) = if isLetter c then wordTok N' (c :: l ++ [41]) else if isDigit c then numTok N' (c :: l ++ [41]) else if c.toNat = 35 then fltTok N' (c :: l ++ [41]) else markTok N' (c :: l ++ [41]) := rfl
    rw [hnext]
    simp only [nextTok] at h
    split at h
    · rename_i hc
      rw [if_pos hc]
      obtain ⟨t1, t2⟩ := tw_clo (p := isWord) rfl (c :: l)
      simp only [wordTok] at h ⊢
      rw [t1, t2, hL]
      split at h
      · cases h
      · rename_i h24
        rw [if_neg h24]
        cases h
        rfl
    · rename_i hc
      rw [if_neg hc]
      split at h
      · rename_i hd
        rw [if_pos hd]
        rw [numTok_eq] at h ⊢
        have e1 : numText (c :: l ++ [41]) = numText (c :: l) := by
          unfold numText
          rw [(tw_clo (p := isDigit) rfl (c :: l)).1]
          rfl
        have e2 : numRest (c :: l ++ [41]) = numRest (c :: l) ++ [41] := by
          unfold numRest
          rw [(tw_clo (p := isDigit) rfl (c :: l)).2]
          have : numZero (c :: l ++ [41]) = numZero (c :: l) := rfl
          rw [this]
          split <;> rfl
        rw [e1, e2, hL]
        split at h
        · rename_i hv
          rw [if_pos hv]
          rw [aloneE_clo h]
          obtain ⟨rfl, _, _⟩ := aloneE_ok h
          rfl
        · cases h
      · rename_i hd
        rw [if_neg hd]
        split at h
        · rename_i h35
          rw [if_pos h35]
          simp only [fltTok] at h ⊢
          split at h
          · rename_i hok
            have hlen : 16 ≤ l.length := by
              have := hok.1
              simp only [List.drop_succ_cons, List.drop_zero, List.length_take] at this
              omega
            have d1 : ((c :: l ++ [41]).drop 1).take 16 = ((c :: l).drop 1).take 16 := by
              simp only [List.cons_append, List.drop_succ_cons, List.drop_zero]
              rw [List.take_append_of_le_length hlen]
            have d2 : (c :: l ++ [41]).take 17 = (c :: l).take 17 := List.take_append_of_le_length (by simp; omega)
            have d3 : (c :: l ++ [41]).drop 17 = (c :: l).drop 17 ++ [41] := List.drop_append_of_le_length (by simp; omega)
            rw [d1, d2, d3, hL, if_pos hok, aloneE_clo h]
            obtain ⟨rfl, _, _⟩ := aloneE_ok h
            rfl
          · cases h
        · rename_i h35
          rw [if_neg h35]
          simp only [markTok] at h ⊢
          have hm : marks2.any (hasP (c :: l ++ [41])) = marks2.any (hasP (c :: l)) := marks2_clo
          rw [hm]
          split at h
          · rename_i hany
            rw [if_pos hany]
            cases h
            have h2 : 2 ≤ (c :: l).length := by
              cases l with
              | nil => simp [marks2, hasP] at hany
              | cons d l => simp
            rw [List.take_append_of_le_length h2, List.drop_append_of_le_length h2, hL]
          · rename_i hany
            rw [if_neg hany]
            simp only [List.cons_append] at h ⊢
            split at h
            · rename_i hf
              rw [if_pos hf]
              cases h
              simp
            · cases h
theorem dw_note {l : Bs} : (l ++ [41]).dropWhile notNL = l.dropWhile notNL ++ [41] ∨ l.dropWhile notNL = [] ∧ (l ++ [41]).dropWhile notNL = [] := by
  induction l with
  | nil => exact .inr ⟨rfl, rfl⟩
  | cons c l ih =>
    simp only [List.cons_append, List.dropWhile_cons]
    cases notNL c with
    | false => exact .inl rfl
    | true => simpa using ih
theorem skip1_clo (l : Bs) : skip1 (l ++ [41]) = skip1 l ++ [41] ∨ skip1 l = [] ∧ skip1 (l ++ [41]) = [] := by
  unfold skip1
  simp only [(tw_clo (p := isBlank) rfl l).2]
  generalize l.dropWhile isBlank = x
  have e : hasP (x ++ [41]) [47, 47] = hasP x [47, 47] := by
    match x with
    | [] => rfl
    | [c] => simp [hasP]
    | c :: d :: x => simp [hasP]
  rw [e]
  split
  · exact dw_note
  · exact .inl rfl
theorem skip_clo : ∀ (n : Nat) (l : Bs), l.length ≤ n → skip (l ++ [41]) = skip l ++ [41] ∨ skip l = [] ∧ skip (l ++ [41]) = [] := by
  intro n
  induction n with
  | zero =>
    intro l h
    have hl : l = [] := List.length_eq_zero_iff.1 (by omega)
    subst hl
    exact .inl rfl
  | succ n ih =>
    intro l h
    have h1 := skip1_le l
    rcases skip1_clo l with e | ⟨e1, e2⟩
    · rw [skip_eq' l, skip_eq' (l ++ [41]), e]
      by_cases hl : (skip1 l).length = l.length
      · rw [if_pos hl, if_pos (by simp [hl])]
        exact .inl rfl
      · rw [if_neg hl, if_neg (by simp [hl])]
        exact ih _ (by omega)
    · refine .inr ⟨?_, ?_⟩
      · rw [← skip_skip1, e1]; rfl
      · rw [← skip_skip1, e2]; rfl
def rpT (p : Nat) : Tok := ⟨5, [41], 0, 0, p⟩
def ClT (cs : List Tok) : Prop := cs = [] ∨ ∃ p, cs = [rpT p]
theorem ClT.clo {cs : List Tok} (h : ClT cs) : CloT cs := by
  rcases h with rfl | ⟨p, rfl⟩
  · intro t r e; cases e
  · intro t r e; cases e; exact ⟨rfl, .inl rfl⟩
theorem toks_clo {N : Nat} : ∀ (f : Nat) (l : Bs) (n n' f' : Nat) (ts : List Tok), l.length ≤ N → l.length + 1 < f' → toksL N f l n = .ok ts → (∃ cs, ClT cs ∧ toksL (N + 2) f' (l ++ [41]) n' = .ok (ts.map (shT 1) ++ cs)) ∨ ∃ e, toksL (N + 2) f' (l ++ [41]) n' = .error e
  | 0, _, _, _, _, _, _, _, h => by cases h
  | f + 1, l, n, n', 0, ts, _, h, _ => by omega
  | f + 1, l, n, n', f' + 1, ts, hN, hf, h => by
    have hne : l ++ [41] ≠ [] := by simp
    rw [toksL, if_neg hne]
    by_cases h2 : n' = 2000
    · rw [if_pos h2]; exact .inr ⟨_, rfl⟩
    rw [if_neg h2]
    rw [toksL] at h
    by_cases hl : l = []
    · subst hl
      rw [if_pos rfl] at h
      cases h
      obtain ⟨g, rfl⟩ : ∃ g, f' = g + 1 := ⟨f' - 1, by simp at hf; omega⟩
      refine .inl ⟨[rpT (N + 2 - 1)], .inr ⟨_, rfl⟩, ?_⟩
      have e : nextTok (N + 2) ([] ++ [41]) = .ok (rpT (N + 2 - 1), []) := rfl
      rw [e]
      rfl
    · rw [if_neg hl] at h
      split at h
      · cases h
      · cases hx : nextTok N l with
        | error e => rw [hx] at h; cases h
        | ok y =>
          obtain ⟨t, r⟩ := y
          rw [hx] at h
          simp only at h
          have hr := nextTok_len hx
          have hp := (nextTok_ok hx).2.2
          rw [next_clo (N' := N + 2) hx]
          simp only
          cases hy : toksL N f (skip r) (n + 1) with
          | error e => rw [hy] at h; cases h
          | ok us =>
            rw [hy] at h
            cases h
            have ht : ({ t with pos := N + 2 - (l.length + 1) } : Tok) = shT 1 t := by
              have : N + 2 - (l.length + 1) = t.pos + 1 := by omega
              simp only [shT, this]
            rw [ht]
            have hs := (skip_suf' r).length_le
            rcases skip_clo r.length r (Nat.le_refl _) with e | ⟨e1, e2⟩
            · rw [e]
              rcases toks_clo f (skip r) (n + 1) (n' + 1) f' us (by omega) (by omega) hy with ⟨cs, h3, h4⟩ | ⟨e, h4⟩
              · rw [h4]; exact .inl ⟨cs, h3, rfl⟩
              · rw [h4]; exact .inr ⟨e, rfl⟩
            · rw [e2]
              rw [e1] at hy
              have : us = [] := by
                cases f with
                | zero => cases hy
                | succ f => rw [toksL, if_pos rfl] at hy; cases hy; rfl
              subst this
              refine .inl ⟨[], .inl rfl, ?_⟩
              cases f' with
              | zero => omega
              | succ f' => rw [toksL, if_pos rfl]; rfl
theorem next_lp {N : Nat} {l : Bs} : nextTok N (40 :: l) = .ok (⟨5, [40], 0, 0, N - (l.length + 1)⟩, l) := by
  have hm : marks2.any (hasP (40 :: l)) = false := by cases l <;> simp [marks2, hasP]
  have h4 : 0 ≤ findB 40 marks1 0 := by decide
  have h1 : isLetter 40 = false := rfl
  have h2 : isDigit 40 = false := rfl
  simp [nextTok, h1, h2, markTok, hm, h4]
theorem skip_lp {l : Bs} : skip (40 :: l) = 40 :: l := skip_id rfl (by decide)
/-- The tokens of a text in brackets. -/
theorem tokens_clo {s : Bs} {ts : List Tok} (hs : s.length ≤ 8190) (h : tokens s = .ok ts) : (∃ cs, ClT cs ∧ tokens (40 :: (s ++ [41])) = .ok (⟨5, [40], 0, 0, 0⟩ :: (ts.map (shT 1) ++ cs))) ∨ ∃ e, tokens (40 :: (s ++ [41])) = .error e := by
  have hL : (40 :: (s ++ [41])).length = s.length + 2 := by simp
  rw [tokens, if_neg (by omega)] at h
  rw [tokens, hL, if_neg (by omega), skip_lp, toksL, if_neg (by simp), if_neg (by decide), next_lp]
  simp only [List.length_append, List.length_cons, List.length_nil]
  have h0 : s.length + 2 - (s.length + (0 + 1) + 1) = 0 := by omega
  rw [h0]
  have hk := (skip_suf' s).length_le
  rcases skip_clo s.length s (Nat.le_refl _) with e | ⟨e1, e2⟩
  · rw [e]
    rcases toks_clo (s.length + 1) (skip s) 0 (0 + 1) (s.length + 2) ts hk (by omega) h with ⟨cs, h3, h4⟩ | ⟨e, h4⟩
    · rw [h4]; exact .inl ⟨cs, h3, rfl⟩
    · rw [h4]; exact .inr ⟨e, rfl⟩
  · rw [e2]
    rw [e1] at h
    rw [toksL, if_pos rfl] at h
    cases h
    exact .inl ⟨[], .inl rfl, by rw [toksL, if_pos rfl]; rfl⟩
/-- An expression in brackets. -/
theorem expr_clo {s : Bs} {a : Nd} (hs : s.length ≤ 8190) (h : exprS s = .ok a) : exprS (40 :: (s ++ [41])) = .ok (shN 1 a) ∨ ∃ e, exprS (40 :: (s ++ [41])) = .error e := by
  unfold exprS readP at h ⊢
  cases ht : tokens s with
  | error e => rw [ht] at h; cases h
  | ok ts =>
    rw [ht] at h
    simp only at h
    cases hx : exprP s.length (ts.length + 1) 0 ts with
    | error e => rw [hx] at h; cases h
    | ok y =>
      obtain ⟨n, r⟩ := y
      rw [hx] at h
      cases r with
      | cons t r => cases h
      | nil =>
        simp only at h
        cases h
        rcases tokens_clo hs ht with ⟨cs, hc, e⟩ | ⟨e, h4⟩
        · rw [e]
          simp only [List.length_cons, List.length_append, List.length_map, List.length_nil]
          generalize hE : (s ++ [41]).length + 1 = E
          have hE' : s.length + (0 + 1) + 1 = E := by rw [← hE]; simp
          rw [hE']
          have hu := exprOf_sh hc.clo (unP_sh (E := s.length) (E' := E) (d := 1) hc.clo (ts.length + 1) (ts.length + cs.length + 1) (by omega)) 0 ts a [] hx
          have hin : (∃ cs', CloT cs' ∧ (cs' = [] ∧ unP E (ts.length + cs.length + 1 + 1) 0 (⟨5, [40], 0, 0, 0⟩ :: (ts.map (shT 1) ++ cs)) = .ok (shN 1 a, cs'))) ∨ ∃ e, unP E (ts.length + cs.length + 1 + 1) 0 (⟨5, [40], 0, 0, 0⟩ :: (ts.map (shT 1) ++ cs)) = .error e := by
            generalize htl : ts.map (shT 1) ++ cs = tl at hu
            have e1 : isT [[45], [33]] (⟨5, [40], 0, 0, 0⟩ :: tl) = false := rfl
            have e3 : isT [[116, 114, 117, 101]] (⟨5, [40], 0, 0, 0⟩ :: tl) = false := rfl
            have e4 : isT [[102, 97, 108, 115, 101]] (⟨5, [40], 0, 0, 0⟩ :: tl) = false := rfl
            have e5 : isT [[105, 110, 116], [102, 108, 111, 97, 116]] (⟨5, [40], 0, 0, 0⟩ :: tl) = false := rfl
            have e6 : isT [[40]] (⟨5, [40], 0, 0, 0⟩ :: tl) = true := rfl
            rw [unP]
            simp only [e1, Bool.false_eq_true, if_false, primP, hdT, e3, e4, e5, Nat.reduceEqDiff, inP, e6, if_true, List.tail_cons]
            rcases hu with hu | ⟨p, hu⟩
            · rw [hu]
              simp only [List.map_nil, List.nil_append]
              rcases hc with rfl | ⟨p, rfl⟩
              · exact .inr ⟨_, rfl⟩
              · exact .inl ⟨[], (fun t r e => by cases e), rfl, rfl⟩
            · rw [hu]
              exact .inr ⟨_, rfl⟩
          rcases hin with ⟨cs', h1, rfl, h2⟩ | ⟨e, h2⟩
          · have := exprOf_pass h2 h1
            unfold exprP
            rw [this]
            exact .inl rfl
          · have := exprOf_err h2
            unfold exprP
            rw [this]
            exact .inr ⟨_, rfl⟩
        · rw [h4]
          exact .inr ⟨_, rfl⟩
end Go.Ev
