/- The lexer whole. -/
import Derived.Test.YtccenddkgeglmaaDoorBK7
set_option linter.all false
set_option linter.unusedVariables false
set_option linter.unusedSimpArgs false
namespace Go.Ev
open Go
set_option maxRecDepth 100000
set_option maxHeartbeats 4000000

theorem skip1_suf (l : Bs) : skip1 l <:+ l := by
  unfold skip1
  simp only
  split
  · exact (dropWhile_suf _ _).trans (dropWhile_suf _ _)
  · exact dropWhile_suf _ _
theorem skipL_fuel : ∀ (n : Nat) (l : Bs), l.length ≤ n → skipL n l = skip l := by
  have key : ∀ (n m : Nat) (l : Bs), l.length ≤ n → l.length ≤ m → skipL n l = skipL m l := by
    intro n
    induction n with
    | zero =>
      intro m l h1 h2
      have hl : l = [] := List.length_eq_zero_iff.1 (by omega)
      subst hl
      cases m with
      | zero => rfl
      | succ m => simp [skipL, skip1, hasP]
    | succ n ih =>
      intro m l h1 h2
      cases m with
      | zero =>
        have hl : l = [] := List.length_eq_zero_iff.1 (by omega)
        subst hl
        simp [skipL, skip1, hasP]
      | succ m =>
        simp only [skipL]
        split
        · rfl
        · rename_i hne
          have := (skip1_suf l).length_le
          exact ih m _ (by omega) (by omega)
  intro n l h
  exact key n l.length l h (Nat.le_refl _)
theorem skip_eq (l : Bs) : skip l = if (skip1 l).length = l.length then l else skip (skip1 l) := by
  rw [← skipL_fuel (l.length + 1) l (by omega)]
  simp only [skipL]
  split
  · rfl
  · exact skipL_fuel _ _ (skip1_suf l).length_le
theorem skip_suf (l : Bs) : skip l <:+ l := by
  suffices ∀ n (l : Bs), l.length ≤ n → skip l <:+ l from this _ l (Nat.le_refl _)
  intro n
  induction n with
  | zero =>
    intro l h
    have hl : l = [] := List.length_eq_zero_iff.1 (by omega)
    subst hl
    simp [skip, skipL]
  | succ n ih =>
    intro l h
    rw [skip_eq]
    split
    · exact List.suffix_refl _
    · have := (skip1_suf l).length_le
      exact (ih _ (by omega)).trans (skip1_suf l)

theorem skip_spec {r : Nat} {s l : Bs} {h : AHeap} (hbig : s.length < 2 ^ 62) (hrd : RdL h r s l) {Q : QR} (hQ : ∀ h', RdL h' r s (skip l) → Fr r h h' → Q (.ret (.tuple [])) h') : WF F 33 [.ptr r 0] h Q := by
  refine WF.code F33 rfl ?_
  simp (maxSteps := 9999999) (disch := first | omega | (simp only [hN] <;> omega) | fail) only [go_sem, simprocAttr]
  refine wp_loop (fun n a h1 => ∃ l1, n = l1.length ∧ RdL h1 r s l1 ∧ Fr r h h1 ∧ skip l1 = skip l ∧ a.tm.get 0 = some (.ptr r 0) ∧ a.df = []) ?_ l.length ⟨l, rfl, hrd, Fr.refl _ _, rfl, by simp (maxSteps := 9999999) (disch := first | omega | (simp only [hN] <;> omega) | fail) only [go_sem, simprocAttr], rfl⟩
  rintro n ⟨t, df⟩ h1 ⟨l1, hn, hrd1, hf1, hsk, k0, hdf⟩
  simp only at k0 hdf
  subst hdf
  obtain ⟨p, ver, hp, hpl, hr, hd, hc⟩ := hrd1.pos
  simp (maxSteps := 9999999) (disch := first | omega | (simp only [hN] <;> omega) | fail) only [go_sem, simprocAttr, k0, hr]
  refine whileL hbig blank_spec hrd1 ?_
  intro h2 hrd2 hf2
  obtain ⟨p2, ver2, hp2, hpl2, hr2, hd2, hc2⟩ := hrd2.pos
  have hsl : bnd (some (.int .i64 (p2 : Int))) 0 s.length = some p2 := bnd_num (by omega)
  have htk : (s.drop p2).take (s.length - p2) = l1.dropWhile isBlank := by rw [hd2]; exact List.take_of_length_le (by omega)
  simp (maxSteps := 9999999) (disch := first | omega | (simp only [hN] <;> omega) | fail) only [go_sem, simprocAttr, k0, hr2, hsl, htk]
  refine hasPrefix ?_
  simp (maxSteps := 9999999) (disch := first | omega | (simp only [hN] <;> omega) | fail) only [go_sem, simprocAttr]
  refine cond_cut (fun a h' => RdL h' r s (skip1 l1) ∧ Fr r h1 h' ∧ a.tm.get 0 = some (.ptr r 0) ∧ a.tm.get 2 = some (.int .i64 (p : Int)) ∧ a.df = []) ?_ ?_
  · (first | refine condP_splitN (fun hh => ?_) (fun hh => ?_) | refine wantP_splitN (fun hh => ?_) (fun hh => ?_) | refine wantPD_splitN (fun hh => ?_) (fun hh => ?_) | refine condP_split (fun hh => ?_) (fun hh => ?_) | refine wantP_split (fun hh => ?_) (fun hh => ?_) | refine wantPD_split (fun hh => ?_) (fun hh => ?_))
    · simp (maxSteps := 9999999) (disch := first | omega | (simp only [hN] <;> omega) | fail) only [go_sem, simprocAttr, k0]
      refine whileL hbig notNL_spec hrd2 ?_
      intro h3 hrd3 hf3
      simp (maxSteps := 9999999) (disch := first | omega | (simp only [hN] <;> omega) | fail) only [go_sem, simprocAttr, k0]
      exact ⟨by simpa only [skip1, hh, if_true] using hrd3, hf2.trans hf3⟩
    · simp (maxSteps := 9999999) (disch := first | omega | (simp only [hN] <;> omega) | fail) only [go_sem, simprocAttr, k0]
      exact ⟨by simpa only [skip1, hh, if_false, Bool.false_eq_true] using hrd2, hf2⟩
  · rintro ⟨t, df⟩ h3 ⟨hrd3, hf3, g0, g2, hdf⟩
    simp only at g0 g2 hdf
    subst hdf
    obtain ⟨p3, ver3, hp3, hpl3, hr3, hd3, hc3⟩ := hrd3.pos
    have hle := (skip1_suf l1).length_le
    simp (maxSteps := 9999999) (disch := first | omega | (simp only [hN] <;> omega) | fail) only [go_sem, simprocAttr, g0, g2, hr3]
    rw [skip_eq] at hsk
    (first | refine condP_splitN (fun he => ?_) (fun he => ?_) | refine wantP_splitN (fun he => ?_) (fun he => ?_) | refine wantPD_splitN (fun he => ?_) (fun he => ?_) | refine condP_split (fun he => ?_) (fun he => ?_) | refine wantP_split (fun he => ?_) (fun he => ?_) | refine wantPD_split (fun he => ?_) (fun he => ?_))
    · have he' : p3 = p := by have : (p3 : Int) = p := by simpa using he
                              omega
      rw [if_pos (by omega)] at hsk
      simp (maxSteps := 9999999) (disch := first | omega | (simp only [hN] <;> omega) | fail) only [go_sem, simprocAttr]
      have hl : skip1 l1 = l1 := (skip1_suf l1).eq_of_length (by omega)
      rw [hl] at hrd3
      refine hQ h3 (hsk ▸ hrd3) (hf1.trans hf3)
    · have he' : ¬ p3 = p := by have : ¬ (p3 : Int) = p := by simpa using he
                                omega
      rw [if_neg (by omega)] at hsk
      simp (maxSteps := 9999999) (disch := first | omega | (simp only [hN] <;> omega) | fail) only [go_sem, simprocAttr, g0]
      exact ⟨_, by omega, skip1 l1, rfl, hrd3, hf1.trans hf3, hsk⟩
end Go.Ev
