/- Tokens, without any program: tokens stand where they say; their texts with blanks between give the same tokens. -/
import Derived.Test.YtccenddkgeglmaaDoorL5
set_option linter.all false
set_option linter.unusedVariables false
set_option linter.unusedSimpArgs false
namespace Go.Ev

theorem dropWhile_app {p : UInt8 → Bool} : ∀ {a r : Bs}, r.length ≤ ((a ++ r).dropWhile p).length → (a ++ r).dropWhile p = a.dropWhile p ++ r
  | [], r, h => by
    rw [List.nil_append] at h ⊢
    exact (List.dropWhile_suffix p).eq_of_length (Nat.le_antisymm (List.dropWhile_suffix p).length_le h)
  | c :: a, r, h => by
    rw [List.cons_append, List.dropWhile_cons] at h ⊢
    rw [List.dropWhile_cons]
    by_cases hc : p c = true
    · rw [if_pos hc] at h ⊢
      rw [if_pos hc]
      exact dropWhile_app h
    · rw [if_neg hc, if_neg hc]
      rfl
theorem hasP_2 {l : Bs} {x y : UInt8} (h : hasP l [x, y] = true) : ∃ r, l = x :: y :: r := by
  have h1 := beq_iff_eq.1 h
  match l, h1 with
  | a :: b :: r, h1 => simp at h1; obtain ⟨rfl, rfl⟩ := h1; exact ⟨r, rfl⟩
  | [a], h1 => simp at h1
  | [], h1 => simp at h1
theorem skip1_app {a r : Bs} (h : r.length ≤ (skip1 (a ++ r)).length) : skip1 (a ++ r) = skip1 a ++ r := by
  have h1 : (skip1 (a ++ r)).length ≤ ((a ++ r).dropWhile isBlank).length := by
    unfold skip1
    simp only
    split
    · exact (List.dropWhile_suffix notNL).length_le
    · exact Nat.le_refl _
  have h2 := dropWhile_app (p := isBlank) (Nat.le_trans h h1)
  unfold skip1 at h ⊢
  simp only [h2] at h ⊢
  generalize a.dropWhile isBlank = b at h ⊢
  cases hb : hasP (b ++ r) [47, 47] with
  | true =>
    rw [hb, if_pos rfl] at h
    obtain ⟨x, hx⟩ := hasP_2 hb
    have hlen : b.length ≥ 2 := by
      have e : ((b ++ r).dropWhile notNL).length ≤ x.length := by
        rw [hx, List.dropWhile_cons, if_pos (by decide), List.dropWhile_cons, if_pos (by decide)]
        exact (List.dropWhile_suffix notNL).length_le
      have := congrArg List.length hx
      simp only [List.length_append, List.length_cons] at this
      omega
    have hb2 : hasP b [47, 47] = true := by
      have := beq_iff_eq.1 hb
      rw [show ([47, 47] : Bs).length = 2 from rfl, List.take_append_of_le_length hlen] at this
      exact beq_iff_eq.2 this
    rw [hb2, if_pos rfl, if_pos rfl]
    exact dropWhile_app h
  | false =>
    have hb2 : hasP b [47, 47] = false := by
      cases q : hasP b [47, 47] with
      | false => rfl
      | true =>
        obtain ⟨x, rfl⟩ := hasP_2 q
        simp [hasP] at hb
    rw [hb2]
    rfl
/-- What has been skipped has no tokens of its own. -/
theorem skip_piece : ∀ (n : Nat) (a r : Bs), (a ++ r).length ≤ n → skip (a ++ r) = r → skip a = [] := by
  intro n
  induction n with
  | zero =>
    intro a r hn _
    have : a = [] := List.length_eq_zero_iff.1 (by rw [List.length_append] at hn; omega)
    subst this
    rfl
  | succ n ih =>
    intro a r hn h
    by_cases e : (skip1 (a ++ r)).length = (a ++ r).length
    · rw [skip_eq', if_pos e] at h
      have := congrArg List.length h
      rw [List.length_append] at this
      have ha : a = [] := List.length_eq_zero_iff.1 (by omega)
      subst ha
      rfl
    · have hlt := skip1_le (a ++ r)
      rw [← skip_skip1] at h
      have hr : r.length ≤ (skip1 (a ++ r)).length := by
        have := (skip_suf' (skip1 (a ++ r))).length_le
        rw [h] at this
        exact this
      have key := skip1_app hr
      rw [key] at h e hlt
      rw [← skip_skip1]
      exact ih (skip1 a) r (by omega) h
theorem tokens_nil {a : Bs} (hl : a.length ≤ 8192) (h : skip a = []) : tokens a = .ok [] := by
  rw [tokens, if_neg (by omega), h, toksL, if_pos rfl]
theorem skip_idem (l : Bs) : skip (skip l) = skip l := by
  suffices ∀ n (l : Bs), l.length ≤ n → skip (skip l) = skip l from this _ l (Nat.le_refl _)
  intro n
  induction n with
  | zero =>
    intro l h
    have hl : l = [] := List.length_eq_zero_iff.1 (by omega)
    subst hl
    rfl
  | succ n ih =>
    intro l h
    by_cases e : (skip1 l).length = l.length
    · rw [skip_eq' l, if_pos e, skip_eq' l, if_pos e]
    · rw [skip_eq' l, if_neg e]
      have := skip1_le l
      exact ih _ (by omega)

/-- A rest that no token goes on in. -/
def Gap (r : Bs) : Prop := r = [] ∨ ∃ x, r = 32 :: x
theorem Gap.word {r : Bs} (h : Gap r) : headB isWord r = false := by
  rcases h with rfl | ⟨x, rfl⟩ <;> rfl
theorem Gap.digit {r : Bs} (h : Gap r) : headB isDigit r = false := by
  rcases h with rfl | ⟨x, rfl⟩ <;> rfl
theorem aloneE_gap {N : Nat} {r : Bs} (h : Gap r) (x : Tok) : aloneE N r x = .ok (x, r) := by
  unfold aloneE
  rw [h.word]
  rfl
theorem takeWhile_idem {p : UInt8 → Bool} {l r : Bs} (hr : headB p r = false) : (l.takeWhile p ++ r).takeWhile p = l.takeWhile p ∧ (l.takeWhile p ++ r).dropWhile p = r := takeWhile_all List.all_takeWhile hr
theorem marks2_len : ∀ m ∈ marks2, m.length = 2 ∧ m[1]? ≠ some 32 := by decide
theorem marks2_gap {c : UInt8} {r : Bs} (h : Gap r) : marks2.any (hasP (c :: r)) = false := by
  rw [List.any_eq_false]
  intro m hm hp
  obtain ⟨h1, h2⟩ := marks2_len m hm
  have e := beq_iff_eq.1 hp
  rw [h1] at e
  rcases h with rfl | ⟨x, rfl⟩
  · rw [← e] at h1; simp at h1
  · rw [← e] at h2; simp at h2
/-- A token's text alone is read as the same token. -/
theorem retok {N N2 : Nat} {l r r2 : Bs} {t : Tok} (h : nextTok N l = .ok (t, r)) (hg : Gap r2) : nextTok N2 (t.text ++ r2) = .ok ({ t with pos := N2 - (t.text ++ r2).length }, r2) := by
  cases l with
  | nil => cases h
  | cons c l =>
    simp only [nextTok] at h
    split at h
    · rename_i hc
      simp only [wordTok] at h
      split at h
      · cases h
      · rename_i hlen
        cases h
        have hcw : isWord c = true := by simp [isWord, hc]
        obtain ⟨t1, t2⟩ := takeWhile_idem (p := isWord) (l := c :: l) hg.word
        have hx : ∃ y, (c :: l).takeWhile isWord = c :: y := by rw [List.takeWhile_cons, if_pos hcw]; exact ⟨_, rfl⟩
        obtain ⟨y, hy⟩ := hx
        have hn : nextTok N2 ((c :: l).takeWhile isWord ++ r2) = wordTok N2 ((c :: l).takeWhile isWord ++ r2) := by
          rw [hy]; simp only [List.cons_append, nextTok, hc, if_true]
        simp only [hn, wordTok, t1, t2, if_neg hlen]
    · rename_i hc
      split at h
      · rename_i hd
        rw [numTok_eq] at h
        split at h
        · rename_i hval
          obtain ⟨rfl, rfl, _⟩ := aloneE_ok h
          simp only
          have hx : ∃ y, numText (c :: l) = c :: y := by
            have hzz : numZero (c :: l) = decide (c.toNat = 48) := rfl
            unfold numText
            rw [hzz]
            by_cases hz : c.toNat = 48
            · have hc48 : c = 48 := by
                apply UInt8.toNat_inj.1
                rw [hz]; rfl
              exact ⟨[], by rw [if_pos (decide_eq_true hz), hc48]⟩
            · rw [if_neg (by simpa using hz), List.takeWhile_cons, if_pos hd]; exact ⟨_, rfl⟩
          have hn : nextTok N2 (numText (c :: l) ++ r2) = numTok N2 (numText (c :: l) ++ r2) := by
            obtain ⟨y, hy⟩ := hx
            rw [hy]
            simp only [List.cons_append, nextTok, hc, hd, if_true, Bool.false_eq_true, if_false]
          have key : numText (numText (c :: l) ++ r2) = numText (c :: l) ∧ numRest (numText (c :: l) ++ r2) = r2 := by
            by_cases hz : numZero (c :: l) = true
            · have : numText (c :: l) = [48] := by rw [numText, if_pos hz]
              rw [this]
              have hz2 : numZero ([48] ++ r2) = true := rfl
              exact ⟨by rw [numText, if_pos hz2], by rw [numRest, if_pos hz2]; rfl⟩
            · have ht : numText (c :: l) = (c :: l).takeWhile isDigit := by rw [numText, if_neg hz]
              obtain ⟨y, hy⟩ := hx
              have hz2 : ¬ numZero (numText (c :: l) ++ r2) = true := by
                rw [hy]
                exact hz
              obtain ⟨t1, t2⟩ := takeWhile_idem (p := isDigit) (l := c :: l) hg.digit
              exact ⟨by rw [numText, if_neg hz2, ht, t1], by rw [numRest, if_neg hz2, ht, t2]⟩
          rw [hn, numTok_eq, key.1, key.2, if_pos hval, aloneE_gap hg]
        · cases h
      · rename_i hd
        split at h
        · rename_i h35
          simp only [fltTok] at h
          split at h
          · rename_i hok
            obtain ⟨rfl, rfl, _⟩ := aloneE_ok h
            simp only
            have hlen : 17 ≤ (c :: l).length := by
              have := hok.1
              simp only [List.drop_succ_cons, List.drop_zero, List.length_take] at this
              simp only [List.length_cons]
              omega
            have hl17 : ((c :: l).take 17).length = 17 := by rw [List.length_take]; omega
            have hn : nextTok N2 ((c :: l).take 17 ++ r2) = fltTok N2 ((c :: l).take 17 ++ r2) := by
              rw [show (c :: l).take 17 = c :: l.take 16 from rfl]
              simp only [List.cons_append, nextTok, hc, hd, h35, if_true, Bool.false_eq_true, if_false]
            have e1 : (((c :: l).take 17 ++ r2).drop 1).take 16 = ((c :: l).drop 1).take 16 := by
              rw [show (c :: l).take 17 = c :: l.take 16 from rfl]
              simp only [List.cons_append, List.drop_succ_cons, List.drop_zero]
              rw [List.take_append_of_le_length (by rw [List.length_take]; simp only [List.length_cons] at hlen; omega), List.take_take, Nat.min_self]
            have e2 : ((c :: l).take 17 ++ r2).take 17 = (c :: l).take 17 := by
              rw [List.take_append_of_le_length (by omega), List.take_take, Nat.min_self]
            have e3 : ((c :: l).take 17 ++ r2).drop 17 = r2 := by
              rw [List.drop_append_of_le_length (by omega), List.drop_of_length_le (by omega), List.nil_append]
            rw [hn]
            simp only [fltTok, e1, e2, e3]
            rw [if_pos hok, aloneE_gap hg]
          · cases h
        · rename_i h35
          have hn : ∀ y, nextTok N2 (c :: y) = markTok N2 (c :: y) := by
            intro y
            simp only [nextTok, hc, hd, h35, Bool.false_eq_true, if_false]
          simp only [markTok] at h
          split at h
          · rename_i hany
            cases h
            simp only
            obtain ⟨m, hm, hp⟩ := List.any_eq_true.1 hany
            have e := beq_iff_eq.1 hp
            rw [(marks2_len m hm).1] at e
            have hl2 : ((c :: l).take 2).length = 2 := by rw [e]; exact (marks2_len m hm).1
            have e2 : ((c :: l).take 2 ++ r2).take 2 = (c :: l).take 2 := by
              rw [List.take_append_of_le_length (by omega), List.take_take, Nat.min_self]
            have e3 : ((c :: l).take 2 ++ r2).drop 2 = r2 := by
              rw [List.drop_append_of_le_length (by omega), List.drop_of_length_le (by omega), List.nil_append]
            have hany2 : marks2.any (hasP ((c :: l).take 2 ++ r2)) = true := by
              refine List.any_eq_true.2 ⟨m, hm, beq_iff_eq.2 ?_⟩
              rw [(marks2_len m hm).1, e2, e]
            have hn2 : nextTok N2 ((c :: l).take 2 ++ r2) = markTok N2 ((c :: l).take 2 ++ r2) := by
              rw [show (c :: l).take 2 = c :: l.take 1 from rfl]
              exact hn _
            rw [hn2]
            simp only [markTok]
            rw [if_pos hany2, e2, e3]
          · split at h
            · rename_i hf
              cases h
              simp only [List.cons_append, List.nil_append, hn, markTok, marks2_gap hg, Bool.false_eq_true, if_false, if_pos hf]
            · cases h

theorem skip_normal {c : UInt8} {l : Bs} (h : skip (c :: l) = c :: l) : isBlank c = false ∧ hasP (c :: l) [47, 47] = false := by
  have e : (skip1 (c :: l)).length = (c :: l).length := by
    have h1 := skip1_le (c :: l)
    have h2 := (skip_suf' (skip1 (c :: l))).length_le
    rw [skip_skip1, h] at h2
    omega
  cases hb : isBlank c with
  | true =>
    exfalso
    have : (skip1 (c :: l)).length ≤ l.length := by
      have hd : (c :: l).dropWhile isBlank = l.dropWhile isBlank := by rw [List.dropWhile_cons, if_pos hb]
      unfold skip1
      simp only [hd]
      split
      · exact Nat.le_trans (List.dropWhile_suffix notNL).length_le (List.dropWhile_suffix isBlank).length_le
      · exact (List.dropWhile_suffix isBlank).length_le
    simp only [List.length_cons] at e
    omega
  | false =>
    refine ⟨rfl, ?_⟩
    cases hp : hasP (c :: l) [47, 47] with
    | false => rfl
    | true =>
      exfalso
      obtain ⟨x, hx⟩ := hasP_2 hp
      have hd : (c :: l).dropWhile isBlank = c :: l := by rw [List.dropWhile_cons, if_neg (by simp [hb])]
      have : (skip1 (c :: l)).length ≤ x.length := by
        unfold skip1
        simp only [hd, hp, if_true]
        rw [hx, List.dropWhile_cons, if_pos (by decide), List.dropWhile_cons, if_pos (by decide)]
        exact (List.dropWhile_suffix notNL).length_le
      rw [hx] at e
      rw [hx] at this
      simp only [List.length_cons] at e
      omega
theorem skip_of_normal {c : UInt8} {l : Bs} (h1 : isBlank c = false) (h2 : hasP (c :: l) [47, 47] = false) : skip (c :: l) = c :: l := by
  have hd : (c :: l).dropWhile isBlank = c :: l := by rw [List.dropWhile_cons, if_neg (by simp [h1])]
  have e : skip1 (c :: l) = c :: l := by
    unfold skip1
    simp only [hd, h2, Bool.false_eq_true, if_false]
  rw [skip_eq', if_pos (by rw [e])]

/-- A token that is read again as itself. -/
def Rt (t : Tok) : Prop := t.text ≠ [] ∧ ∀ (N : Nat) (r : Bs), Gap r → nextTok N (t.text ++ r) = .ok ({ t with pos := N - (t.text ++ r).length }, r) ∧ skip (t.text ++ r) = t.text ++ r
theorem rt_next {N : Nat} {l r : Bs} {t : Tok} (hs : skip l = l) (h : nextTok N l = .ok (t, r)) : Rt t := by
  obtain ⟨h1, h2, _⟩ := nextTok_ok h
  refine ⟨h2, fun N2 r2 hg => ⟨retok h hg, ?_⟩⟩
  obtain ⟨c, x, hc⟩ : ∃ c x, t.text = c :: x := by cases q : t.text with | nil => exact absurd q h2 | cons c x => exact ⟨c, x, rfl⟩
  rw [h1, hc, List.cons_append] at hs
  obtain ⟨n1, n2⟩ := skip_normal hs
  rw [hc, List.cons_append]
  refine skip_of_normal n1 ?_
  cases q : hasP (c :: (x ++ r2)) [47, 47] with
  | false => rfl
  | true =>
    exfalso
    obtain ⟨y, hy⟩ := hasP_2 q
    simp only [List.cons.injEq] at hy
    obtain ⟨rfl, hy⟩ := hy
    cases x with
    | nil =>
      rcases hg with rfl | ⟨z, rfl⟩
      · simp at hy
      · simp at hy
    | cons d x =>
      simp only [List.cons_append, List.cons.injEq] at hy
      obtain ⟨rfl, _⟩ := hy
      simp [hasP] at n2
theorem rt_toks {N : Nat} : ∀ (f : Nat) (l : Bs) (n : Nat) (ts : List Tok), skip l = l → toksL N f l n = .ok ts → ∀ t ∈ ts, Rt t := by
  intro f
  induction f with
  | zero => intro l n ts _ h; cases h
  | succ f ih =>
    intro l n ts hs h
    simp only [toksL] at h
    split at h
    · cases h; intro t ht; cases ht
    · split at h
      · cases h
      · cases hx : nextTok N l with
        | error e => rw [hx] at h; cases h
        | ok x =>
          obtain ⟨t, r⟩ := x
          rw [hx] at h
          simp only at h
          cases hy : toksL N f (skip r) (n + 1) with
          | error e => rw [hy] at h; cases h
          | ok us =>
            rw [hy] at h
            cases h
            intro t' ht
            rcases List.mem_cons.1 ht with rfl | ht
            · exact rt_next hs hx
            · exact ih _ _ _ (skip_idem r) hy t' ht
def flatT (ts : List Tok) : Bs := ts.flatMap fun t => 32 :: t.text
theorem flatT_gap (ts : List Tok) : Gap (flatT ts) := by
  cases ts with
  | nil => exact .inl rfl
  | cons t ts => exact .inr ⟨t.text ++ flatT ts, rfl⟩
theorem back_toks {N : Nat} : ∀ (ts : List Tok) (f n : Nat), (∀ t ∈ ts, Rt t) → n + ts.length ≤ 2000 → (flatT ts).length < f → ∃ us, toksL N f (skip (flatT ts)) n = .ok us ∧ us.length = ts.length ∧ ∀ (i : Nat) (t u : Tok), ts[i]? = some t → us[i]? = some u → ({ u with pos := t.pos } : Tok) = t
  | [], f, n, _, _, hf => by
    obtain ⟨f, rfl⟩ : ∃ g, f = g + 1 := ⟨f - 1, by omega⟩
    refine ⟨[], ?_, rfl, fun i t u h => by simp at h⟩
    rw [show flatT [] = [] from rfl, skip_nil, toksL, if_pos rfl]
  | t :: ts, f, n, hr, hn, hf => by
    obtain ⟨f, rfl⟩ : ∃ g, f = g + 1 := ⟨f - 1, by omega⟩
    obtain ⟨h1, h2⟩ := hr t List.mem_cons_self
    obtain ⟨h3, h4⟩ := h2 N (flatT ts) (flatT_gap ts)
    have e : skip (flatT (t :: ts)) = t.text ++ flatT ts := by
      have : flatT (t :: ts) = [32] ++ (t.text ++ flatT ts) := rfl
      rw [this, skip_blanks (by decide), h4]
    have hlen : (flatT (t :: ts)).length = t.text.length + (flatT ts).length + 1 := by
      have : flatT (t :: ts) = 32 :: (t.text ++ flatT ts) := rfl
      rw [this, List.length_cons, List.length_append]
    simp only [List.length_cons] at hn
    obtain ⟨us, g1, g2, g3⟩ := back_toks (N := N) ts f (n + 1) (fun t ht => hr t (List.mem_cons_of_mem _ ht)) (by omega) (by omega)
    refine ⟨{ t with pos := N - (t.text ++ flatT ts).length } :: us, ?_, by simp [g2], ?_⟩
    · have hne : t.text ++ flatT ts ≠ [] := by
        intro q
        exact h1 (List.append_eq_nil_iff.1 q).1
      rw [e, toksL, if_neg hne, if_neg (by omega), h3]
      simp only [g1]
    · intro i x u hx hu
      cases i with
      | zero => simp at hx hu; subst hx hu; rfl
      | succ i => exact g3 i x u (by simpa using hx) (by simpa using hu)
theorem tokens_back {s : Bs} {ts : List Tok} (h : tokens s = .ok ts) (hl : (flatT ts).length ≤ 8192) : ∃ us, tokens (flatT ts) = .ok us ∧ us.length = ts.length ∧ ∀ (i : Nat) (t u : Tok), ts[i]? = some t → us[i]? = some u → ({ u with pos := t.pos } : Tok) = t := by
  have hlen := tokens_len h
  unfold tokens at h
  split at h
  · cases h
  · have hr := rt_toks _ _ _ _ (skip_idem s) h
    obtain ⟨us, g⟩ := back_toks (N := (flatT ts).length) ts ((flatT ts).length + 1) 0 hr (by omega) (by omega)
    refine ⟨us, ?_, g.2⟩
    rw [tokens, if_neg (by omega)]
    exact g.1
/-- One step of a row of tokens: where the next one stands. -/
theorem toks_step {N f n a : Nat} {s : Bs} {t : Tok} {us : List Tok} (hN : s.length = N) (ha : a ≤ N) (h : toksL N f (skip (s.drop a)) n = .ok (t :: us)) :
    a ≤ t.pos ∧ t.pos + t.text.length ≤ N ∧ (s.drop t.pos).take t.text.length = t.text ∧ t.text ≠ [] ∧ skip ((s.drop a).take (t.pos - a)) = [] ∧ ∃ f', toksL N f' (skip (s.drop (t.pos + t.text.length))) (n + 1) = .ok us := by
  cases f with
  | zero => cases h
  | succ f =>
    simp only [toksL] at h
    split at h
    · cases h
    · split at h
      · cases h
      · cases hx : nextTok N (skip (s.drop a)) with
        | error e => rw [hx] at h; cases h
        | ok x =>
          obtain ⟨t', r⟩ := x
          rw [hx] at h
          simp only at h
          cases hy : toksL N f (skip r) (n + 1) with
          | error e => rw [hy] at h; cases h
          | ok vs =>
            rw [hy] at h
            cases h
            obtain ⟨h1, h2, h3⟩ := nextTok_ok hx
            obtain ⟨b, hb⟩ := skip_suf' (s.drop a)
            have hbl := congrArg List.length hb
            have hrl := congrArg List.length h1
            rw [List.length_append, List.length_drop] at hbl
            rw [List.length_append] at hrl
            have hpos : t.pos = a + b.length := by omega
            have hdr : s.drop t.pos = t.text ++ r := by
              rw [hpos, ← List.drop_drop, ← hb, List.drop_left, h1]
            refine ⟨by omega, by omega, by rw [hdr, List.take_left], h2, ?_, f, ?_⟩
            · have : (s.drop a).take (t.pos - a) = b := by
                rw [← hb, show t.pos - a = b.length by omega, List.take_left]
              rw [this]
              exact skip_piece _ b (skip (s.drop a)) (Nat.le_refl _) (by rw [hb])
            · rw [← List.drop_drop, hdr, List.drop_left]
              exact hy
end Go.Ev
