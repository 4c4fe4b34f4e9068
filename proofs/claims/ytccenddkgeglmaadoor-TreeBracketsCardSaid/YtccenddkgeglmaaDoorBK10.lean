/- The errors' numbers. -/
import Derived.Test.YtccenddkgeglmaaDoorBK9
set_option linter.all false
set_option linter.unusedVariables false
set_option linter.unusedSimpArgs false
namespace Go.Ev
open Go
set_option maxRecDepth 100000
set_option maxHeartbeats 4000000

def numGs : List Nat := [1, 2, 3, 4, 5, 0, 6, 7, 8, 9, 10, 11, 12, 13, 14, 15, 16]
theorem numGs_get : ∀ i, i < 17 → numGs[i]? = some (gi (i + 1)) := by decide
theorem gi_lt : ∀ e, 1 ≤ e → e ≤ 17 → gi e < 17 := by intro e h1 h2; unfold gi; split <;> (try split) <;> omega
theorem gi_inj {e e' : Nat} (h1 : 1 ≤ e) (h3 : 1 ≤ e') (h : gi e = gi e') : e = e' := by
  unfold gi at h
  split at h <;> split at h <;> (try split at h) <;> (try split at h) <;> omega
theorem txt_inj : ∀ g, g < 17 → ∀ g', g' < 17 → g ≠ g' → txt g ≠ txt g' := by decide
theorem pIs_eq {h : AHeap} (hG : GH h) {e e' : Nat} (h1 : 1 ≤ e) (h2 : e ≤ 17) (h3 : 1 ≤ e') (h4 : e' ≤ 17) : pIs [errAV e, errAV e'] h = some (.ret (.bool (decide (e = e'))), h) := by
  have a1 := hG.st _ (gi_lt e h1 h2)
  have a2 := hG.st _ (gi_lt e' h3 h4)
  simp only [errAV, errG, pIs, Nat.beq_refl, Bool.and_true, cond_true, a1, a2]
  by_cases he : e = e'
  · subst he
    simp [beq_nat]
  · have hg : gi e ≠ gi e' := fun q => he (gi_inj h1 h3 q)
    have ht : (txt (gi e) == txt (gi e')) = false := beq_eq_false_iff_ne.2 (txt_inj _ (gi_lt e h1 h2) _ (gi_lt e' h3 h4) hg)
    simp [beq_nat, ht, he, hg]
theorem num_nil {h : AHeap} {Q : QR} (hQ : Q (.ret (.int .i64 0)) h) : WF F 17 [.nilIface] h Q := by
  refine WF.code F17 rfl ?_
  simp (maxSteps := 9999999) (disch := first | omega | (simp only [hN] <;> omega) | fail) only [go_sem, simprocAttr]
  exact hQ
theorem num_spec {h : AHeap} (hG : GH h) {e : Nat} (h1 : 1 ≤ e) (h2 : e ≤ 17) {Q : QR} (hQ : ∀ h', Fr h.n h h' → Q (.ret (.int .i64 (e : Int))) h') : WF F 17 [errAV e] h Q := by
  refine WF.code F17 rfl ?_
  simp (maxSteps := 9999999) (disch := first | omega | (simp only [hN] <;> omega) | fail) only [go_sem, simprocAttr, hG.gl]
  refine wp_loop (fun n a h' => ∃ i : Nat, n = 17 - i ∧ i < e ∧ h' = h.alloc (.cells .own 1 (numGs.map errG)) ∧ a.tm.get 0 = some (errAV e) ∧ a.tm.get 26 = some (.slice h.n 0 17 17 true) ∧ a.tm.get 27 = some (.int .i64 17) ∧ a.tm.get 28 = some (.int .i64 (i : Int)) ∧ a.df = []) ?_ 17 ?_
  · rintro n ⟨t, df⟩ h' ⟨i, hn, hi, rfl, k0, k26, k27, k28, hdf⟩
    simp only at k0 k26 k27 k28 hdf
    subst hdf
    have hG1 := hG.alloc (.cells .own 1 (numGs.map errG))
    have hlt : ((i : Int) < 17) = True := by simp; omega
    have hlt2 : ((i : Int) < ((17 : Nat) : Int)) = True := by simp; omega
    have hg : (numGs.map errG)[i]? = some (errAV (i + 1)) := by rw [List.getElem?_map, numGs_get i (by omega)]; rfl
    simp (maxSteps := 9999999) (disch := first | omega | (simp only [hN] <;> omega) | fail) only [go_sem, simprocAttr, k0, k26, k27, k28, hlt, hlt2, Nat.mul_one, hg]
    refine WF.prim F36 (pIs_eq hG1 h1 h2 (by omega) (by omega)) ?_
    simp (maxSteps := 9999999) (disch := first | omega | (simp only [hN] <;> omega) | fail) only [go_sem, simprocAttr]
    (first | refine condP_splitN (fun he => ?_) (fun he => ?_) | refine wantP_splitN (fun he => ?_) (fun he => ?_) | refine wantPD_splitN (fun he => ?_) (fun he => ?_) | refine condP_split (fun he => ?_) (fun he => ?_) | refine wantP_split (fun he => ?_) (fun he => ?_) | refine wantPD_split (fun he => ?_) (fun he => ?_))
    · have he' : e = i + 1 := of_decide_eq_true he
      simp (maxSteps := 9999999) (disch := first | omega | (simp only [hN] <;> omega) | fail) only [go_sem, simprocAttr, k28]
      subst he'
      exact hQ _ (Fr.alloc (Fr.refl _ _) _)
    · have he' : ¬ e = i + 1 := of_decide_eq_false he
      simp (maxSteps := 9999999) (disch := first | omega | (simp only [hN] <;> omega) | fail) only [go_sem, simprocAttr, k0, k26, k27, k28]
      exact ⟨_, by omega, i + 1, rfl, by omega, rfl⟩
  · simp (maxSteps := 9999999) (disch := first | omega | (simp only [hN] <;> omega) | fail) only [go_sem, simprocAttr]
    exact ⟨0, rfl, by omega, rfl, rfl⟩
end Go.Ev
