/- Tokens, without any program: ints in digits, floats. -/
import Derived.Test.YtccenddkgeglmaaDoorL2
set_option linter.all false
set_option linter.unusedVariables false
set_option linter.unusedSimpArgs false
namespace Go.Ev

theorem skip_id {c : UInt8} {l : Bs} (h1 : isBlank c = false) (h2 : c ≠ 47) : skip (c :: l) = c :: l := by
  have e : skip1 (c :: l) = c :: l := by
    have hd : (c :: l).dropWhile isBlank = c :: l := by rw [List.dropWhile_cons, if_neg (by simp [h1])]
    simp only [skip1, hd]
    have : hasP (c :: l) [47, 47] = false := by
      simp only [hasP, List.length_cons, List.length_nil, beq_eq_false_iff_ne, ne_eq]
      intro q
      simp at q
      exact h2 q.1
    rw [this]
    rfl
  simp [skip, skipL, e]
theorem skip_nil : skip [] = [] := rfl
theorem isDigit_iff {c : UInt8} : isDigit c = true ↔ 48 ≤ c.toNat ∧ c.toNat ≤ 57 := by simp [isDigit]
theorem digit_facts {c : UInt8} (h : isDigit c = true) : isLetter c = false ∧ isBlank c = false ∧ c ≠ 47 ∧ isWord c = true := by
  have h1 := isDigit_iff.1 h
  refine ⟨?_, ?_, ?_, ?_⟩
  · simp [isLetter]; omega
  · simp [isBlank]; omega
  · intro q; subst q; simp at h1
  · simp [isWord, h]

theorem toks_one {N f : Nat} {l : Bs} {t : Tok} (hne : l ≠ []) (h : nextTok N l = .ok (t, [])) : toksL N (f + 2) l 0 = .ok [t] := by
  rw [toksL, if_neg hne, if_neg (by decide), h]
  simp only [skip_nil]
  rw [toksL, if_pos rfl]
theorem toks_err {N f : Nat} {l : Bs} {e : Err} (hne : l ≠ []) (h : nextTok N l = .error e) : toksL N (f + 1) l 0 = .error e := by
  rw [toksL, if_neg hne, if_neg (by decide), h]
theorem tokens_digit {c : UInt8} {l : Bs} (hc : isDigit c = true) (hl : (c :: l).length ≤ 8192) : tokens (c :: l) = toksL (c :: l).length (l.length + 2) (c :: l) 0 ∧ ∀ N, nextTok N (c :: l) = numTok N (c :: l) := by
  obtain ⟨h1, h2, h3, _⟩ := digit_facts hc
  refine ⟨?_, fun N => ?_⟩
  · rw [tokens, if_neg (by omega), skip_id h2 h3]
    rfl
  · simp only [nextTok, h1, hc, Bool.false_eq_true, if_false, if_true]

/-- A number's digits. -/
def dec (n : Nat) : Bs := if n ≤ 9 then [UInt8.ofNat (48 + n)] else dec (n / 10) ++ [UInt8.ofNat (48 + n % 10)]
termination_by n
decreasing_by omega
theorem dec_small {n : Nat} (h : n ≤ 9) : dec n = [UInt8.ofNat (48 + n)] := by rw [dec, if_pos h]
theorem dec_big {n : Nat} (h : ¬ n ≤ 9) : dec n = dec (n / 10) ++ [UInt8.ofNat (48 + n % 10)] := by rw [dec, if_neg h]
theorem dig_nat {k : Nat} (h : k ≤ 9) : (UInt8.ofNat (48 + k)).toNat = 48 + k := by
  rw [UInt8.toNat_ofNat']; omega
theorem decVal_snoc (l : Bs) (c : UInt8) : decVal (l ++ [c]) = 10 * decVal l + (c.toNat - 48) := by simp [decVal]
theorem dec_facts : ∀ (n : Nat), (dec n).all isDigit = true ∧ decVal (dec n) = n ∧ dec n ≠ [] ∧ (0 < n → ∀ c, (dec n)[0]? = some c → c.toNat ≠ 48) ∧ (∀ k, n < 10 ^ k → 1 ≤ k → (dec n).length ≤ k) := by
  intro n
  induction n using Nat.strongRecOn with
  | _ n ih =>
    by_cases h : n ≤ 9
    · rw [dec_small h]
      have hd := dig_nat h
      refine ⟨?_, ?_, by simp, ?_, ?_⟩
      · simp only [List.all_cons, List.all_nil, Bool.and_true]; rw [isDigit_iff, hd]; omega
      · simp only [decVal, List.foldl_cons, List.foldl_nil, hd]; omega
      · intro hp c hc
        simp only [List.getElem?_cons_zero, Option.some.injEq] at hc
        rw [← hc, hd]; omega
      · intro k _ hk; simpa using hk
    · obtain ⟨h1, h2, h3, h4, h5⟩ := ih (n / 10) (by omega)
      have hd := dig_nat (k := n % 10) (by omega)
      rw [dec_big h]
      refine ⟨?_, ?_, by simp, ?_, ?_⟩
      · rw [List.all_append, h1]
        simp only [List.all_cons, List.all_nil, Bool.and_true, Bool.true_and]
        rw [isDigit_iff, hd]; omega
      · rw [decVal_snoc, h2, hd]; omega
      · intro _ c hc
        refine h4 (by omega) c ?_
        rw [List.getElem?_append_left (List.length_pos_iff.2 h3)] at hc
        exact hc
      · intro k hk1 hk2
        obtain ⟨j, rfl⟩ : ∃ j, k = j + 1 := ⟨k - 1, by omega⟩
        rw [List.length_append]
        have hj : n / 10 < 10 ^ j := by rw [Nat.pow_succ] at hk1; omega
        have hj1 : 1 ≤ j := by
          rcases Nat.eq_zero_or_pos j with rfl | hj
          · simp at hj; omega
          · exact hj
        have := h5 j hj hj1
        simp only [List.length_cons, List.length_nil]
        omega
theorem takeWhile_all {p : UInt8 → Bool} : ∀ {l : Bs} {r : Bs}, l.all p = true → headB p r = false → (l ++ r).takeWhile p = l ∧ (l ++ r).dropWhile p = r
  | [], r, _, hr => by
    cases r with
    | nil => exact ⟨rfl, rfl⟩
    | cons c r =>
      simp only [headB] at hr
      simp [List.takeWhile_cons, List.dropWhile_cons, hr]
  | c :: l, r, hl, hr => by
    simp only [List.all_cons, Bool.and_eq_true] at hl
    obtain ⟨h1, h2⟩ := takeWhile_all (l := l) (r := r) hl.2 hr
    simp [List.takeWhile_cons, List.dropWhile_cons, hl.1, h1, h2]

theorem num_dec {n N : Nat} (hn : n < 2 ^ 63) {r : Bs} (hr : headB isDigit r = false) : numTok N (dec n ++ r) = aloneE N r ⟨3, dec n, n, 0, N - (dec n ++ r).length⟩ := by
  obtain ⟨h1, h2, h3, h4, _⟩ := dec_facts n
  obtain ⟨c, l, hcl⟩ : ∃ c l, dec n = c :: l := by cases h : dec n with | nil => exact absurd h h3 | cons c l => exact ⟨c, l, rfl⟩
  rw [numTok_eq]
  have key : numText (dec n ++ r) = dec n ∧ numRest (dec n ++ r) = r := by
    obtain ⟨t1, t2⟩ := takeWhile_all h1 hr
    unfold numText numRest
    by_cases hz : n = 0
    · subst hz
      have : dec 0 = [48] := by rw [dec_small (by decide)]; rfl
      rw [this]
      simp [numZero]
    · have hc : c.toNat ≠ 48 := h4 (by omega) c (by rw [hcl]; rfl)
      have : numZero (dec n ++ r) = false := by rw [hcl]; simp [numZero, hc]
      simp only [this, Bool.false_eq_true, if_false]
      exact ⟨t1, t2⟩
  rw [key.1, key.2, h2, if_pos hn]

theorem tok_ints {n : Nat} (hn : n < 2 ^ 63) : tokens (dec n) = .ok [⟨3, dec n, n, 0, 0⟩] ∧ tokens (48 :: dec n) = .error (2, 1) ∧ tokens (dec n ++ [120]) = .error (2, (dec n).length) := by
  obtain ⟨h1, h2, h3, h4, h5⟩ := dec_facts n
  have hlen : (dec n).length ≤ 19 := h5 19 (by omega) (by decide)
  obtain ⟨c, l, hcl⟩ : ∃ c l, dec n = c :: l := by cases h : dec n with | nil => exact absurd h h3 | cons c l => exact ⟨c, l, rfl⟩
  have hc : isDigit c = true := by rw [hcl] at h1; simp only [List.all_cons, Bool.and_eq_true] at h1; exact h1.1
  refine ⟨?_, ?_, ?_⟩
  · have hl2 : (c :: l).length ≤ 8192 := by rw [← hcl]; omega
    obtain ⟨e1, e2⟩ := tokens_digit (l := l) hc hl2
    rw [hcl, e1]
    refine toks_one (by simp) ?_
    rw [e2]
    have := num_dec (N := (c :: l).length) (r := []) hn rfl
    rw [List.append_nil, hcl] at this
    rw [this]
    simp [aloneE, headB]
  · have h48 : isDigit 48 = true := by decide
    have hl2 : (48 :: dec n).length ≤ 8192 := by simp only [List.length_cons]; omega
    obtain ⟨e1, e2⟩ := tokens_digit (l := dec n) h48 hl2
    rw [e1]
    refine toks_err (by simp) ?_
    rw [e2, numTok_eq]
    have : numZero (48 :: dec n) = true := rfl
    have hw : headB isWord (dec n) = true := by rw [hcl]; exact (digit_facts hc).2.2.2
    simp only [numText, numRest, this, if_true, List.drop_succ_cons, List.drop_zero, aloneE, hw]
    rw [if_pos (by decide)]
    simp
  · have hl2 : (c :: (l ++ [120])).length ≤ 8192 := by
      have := congrArg List.length hcl
      simp only [List.length_cons, List.length_append, List.length_nil] at this ⊢
      omega
    obtain ⟨e1, e2⟩ := tokens_digit (l := l ++ [120]) hc hl2
    have he : dec n ++ [120] = c :: (l ++ [120]) := by rw [hcl]; rfl
    rw [he, e1]
    refine toks_err (by simp) ?_
    rw [e2]
    have := num_dec (N := (c :: (l ++ [120])).length) (r := [120]) hn (by decide)
    rw [he] at this
    rw [this]
    have hw : headB isWord [120] = true := by decide
    simp only [aloneE, hw, if_true]
    rw [hcl]
    simp
end Go.Ev
