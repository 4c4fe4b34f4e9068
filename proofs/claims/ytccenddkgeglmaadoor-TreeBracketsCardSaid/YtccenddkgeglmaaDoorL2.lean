/- Tokens, without any program: what a token's reading takes. -/
import Derived.Test.YtccenddkgeglmaaDoorL1
set_option linter.all false
set_option linter.unusedVariables false
set_option linter.unusedSimpArgs false
namespace Go.Ev

theorem takeWhile_ne {p : UInt8 → Bool} {c : UInt8} {l : Bs} (h : p c = true) : (c :: l).takeWhile p ≠ [] := by
  rw [List.takeWhile_cons, if_pos h]; exact List.cons_ne_nil _ _
theorem aloneE_ok {N : Nat} {l r : Bs} {x t : Tok} (h : aloneE N l x = .ok (t, r)) : t = x ∧ r = l ∧ headB isWord l = false := by
  unfold aloneE at h
  split at h
  · cases h
  · rename_i hw
    cases h
    exact ⟨rfl, rfl, by simpa using hw⟩

def numZero (l : Bs) : Bool := match l with | c :: _ => decide (c.toNat = 48) | [] => false
def numText (l : Bs) : Bs := if numZero l then [48] else l.takeWhile isDigit
def numRest (l : Bs) : Bs := if numZero l then l.drop 1 else l.dropWhile isDigit
theorem numTok_eq (N : Nat) (l : Bs) : numTok N l = if decVal (numText l) < 2 ^ 63 then aloneE N (numRest l) ⟨3, numText l, decVal (numText l), 0, N - l.length⟩ else .error (1, N - l.length) := rfl
theorem nextTok_ok {N : Nat} {l r : Bs} {t : Tok} (h : nextTok N l = .ok (t, r)) : l = t.text ++ r ∧ t.text ≠ [] ∧ t.pos = N - l.length := by
  cases l with
  | nil => cases h
  | cons c l =>
    simp only [nextTok] at h
    split at h
    · rename_i hc
      simp only [wordTok] at h
      split at h
      · cases h
      · cases h
        refine ⟨(List.takeWhile_append_dropWhile).symm, ?_, rfl⟩
        exact takeWhile_ne (by simp [isWord, hc])
    · split at h
      · rename_i hc
        rw [numTok_eq] at h
        split at h
        · obtain ⟨rfl, rfl, _⟩ := aloneE_ok h
          simp only [numText, numRest, numZero]
          by_cases hz : c.toNat = 48
          · have hc48 : c = 48 := by
              apply UInt8.toNat_inj.1; rw [hz]; rfl
            simp [hc48]
          · simp only [hz, decide_false, Bool.false_eq_true, if_false]
            exact ⟨(List.takeWhile_append_dropWhile).symm, takeWhile_ne hc, trivial⟩
        · cases h
      · split at h
        · simp only [fltTok] at h
          split at h
          · rename_i hd
            obtain ⟨rfl, rfl, _⟩ := aloneE_ok h
            refine ⟨(List.take_append_drop 17 _).symm, ?_, rfl⟩
            simp
          · cases h
        · simp only [markTok] at h
          split at h
          · cases h
            exact ⟨(List.take_append_drop 2 _).symm, by simp, rfl⟩
          · split at h
            · cases h
              exact ⟨rfl, List.cons_ne_nil _ _, rfl⟩
            · cases h
theorem nextTok_len {N : Nat} {l r : Bs} {t : Tok} (h : nextTok N l = .ok (t, r)) : r.length < l.length := by
  obtain ⟨h1, h2, _⟩ := nextTok_ok h
  rw [h1, List.length_append]
  have := List.length_pos_iff.2 h2
  omega
end Go.Ev
