/- The lexer's reading functions. -/
import Derived.Test.YtccenddkgeglmaaDoorBK1
set_option linter.all false
set_option linter.unusedVariables false
set_option linter.unusedSimpArgs false
namespace Go.Ev
open Go
set_option maxRecDepth 100000
set_option maxHeartbeats 4000000

theorem here_spec {r i : Nat} {s : List UInt8} {g : Nat} {h : AHeap} {p : UInt8 → Bool} (hrd : Rd h r s i) (hp : PureB g p) {Q : QR} (hQ : Q (.ret (.bool (atB p s i))) h) : WF F 54 [.ptr r 0, .func (.func g) [] []] h Q := by
  obtain ⟨ver, hr⟩ := hrd
  refine WF.code F54 rfl ?_
  simp (maxSteps := 9999999) (disch := first | omega | (simp only [hN] <;> omega) | fail) only [go_sem, simprocAttr, hr]
  (first | refine condP_splitN (fun hb => ?_) (fun hb => ?_) | refine wantP_splitN (fun hb => ?_) (fun hb => ?_) | refine wantPD_splitN (fun hb => ?_) (fun hb => ?_) | refine condP_split (fun hb => ?_) (fun hb => ?_) | refine wantP_split (fun hb => ?_) (fun hb => ?_) | refine wantPD_split (fun hb => ?_) (fun hb => ?_))
  · have hb' : i < s.length := by simpa using hb
    have hi : s[i]? = some s[i] := List.getElem?_eq_getElem hb'
    simp (maxSteps := 9999999) (disch := first | omega | (simp only [hN] <;> omega) | fail) only [go_sem, simprocAttr, hr, hb, hi]
    refine hp _ _ _ ?_
    simp (maxSteps := 9999999) (disch := first | omega | (simp only [hN] <;> omega) | fail) only [go_sem, simprocAttr, hr, hb, hi]
    simpa [atB, hi] using hQ
  · have hi : s[i]? = none := by simpa using hb
    simp (maxSteps := 9999999) (disch := first | omega | (simp only [hN] <;> omega) | fail) only [go_sem, simprocAttr, hr, hb]
    simpa [atB, hi] using hQ

theorem takeWhile_drop (p : UInt8 → Bool) (s : List UInt8) (i : Nat) (h : atB p s i = true) : i < s.length ∧ ((s.drop i).takeWhile p).length = ((s.drop (i + 1)).takeWhile p).length + 1 := by
  unfold atB at h
  cases e : s[i]? with
  | none => rw [e] at h; cases h
  | some c =>
    rw [e] at h
    obtain ⟨hl, hc⟩ := List.getElem?_eq_some_iff.1 e
    refine ⟨hl, ?_⟩
    rw [List.drop_eq_getElem_cons hl, hc, List.takeWhile_cons, if_pos h]
    rfl
theorem takeWhile_stop (p : UInt8 → Bool) (s : List UInt8) (i : Nat) (h : atB p s i = false) : (s.drop i).takeWhile p = [] := by
  unfold atB at h
  cases e : s[i]? with
  | none => rw [List.drop_eq_nil_of_le (by simpa using e)]; rfl
  | some c =>
    rw [e] at h
    obtain ⟨hl, hc⟩ := List.getElem?_eq_some_iff.1 e
    have h' : ¬ p c = true := by simp only at h; simp [h]
    rw [List.drop_eq_getElem_cons hl, hc, List.takeWhile_cons, if_neg h']
theorem take_takeWhile (p : UInt8 → Bool) (l : List UInt8) : l.take (l.takeWhile p).length = l.takeWhile p := by
  induction l with
  | nil => rfl
  | cons c l ih =>
    rw [List.takeWhile_cons]
    cases p c with
    | false => rfl
    | true => simp [ih]
theorem takeWhile_le (p : UInt8 → Bool) (s : List UInt8) (i : Nat) (hi : i ≤ s.length) : i + ((s.drop i).takeWhile p).length ≤ s.length := by
  have h1 : ((s.drop i).takeWhile p).length ≤ (s.drop i).length := (List.takeWhile_prefix p).length_le
  rw [List.length_drop] at h1
  omega
theorem while_spec {r g : Nat} {s : List UInt8} {p : UInt8 → Bool} (hbig : s.length < 2 ^ 62) (hp : PureB g p) {i : Nat} {h : AHeap} (hi : i ≤ s.length) (hrd : Rd h r s i) {Q : QR}
    (hQ : ∀ h', Rd h' r s (i + ((s.drop i).takeWhile p).length) → Fr r h h' → Q (.ret (.str ((s.drop i).takeWhile p))) h') : WF F 50 [.ptr r 0, .func (.func g) [] []] h Q := by
  have hrd0 := hrd
  obtain ⟨ver, hr⟩ := hrd
  refine WF.code F50 rfl ?_
  simp (maxSteps := 9999999) (disch := first | omega | (simp only [hN] <;> omega) | fail) only [go_sem, simprocAttr, hr]
  refine wp_loop (fun n a h1 => ∃ j, n = s.length - j ∧ i ≤ j ∧ j ≤ s.length ∧ Rd h1 r s j ∧ Fr r h h1 ∧ j + ((s.drop j).takeWhile p).length = i + ((s.drop i).takeWhile p).length ∧ a.tm.get 0 = some (.ptr r 0) ∧ a.tm.get 1 = some (.func (.func g) [] []) ∧ a.tm.get 5 = some (.int .i64 (i : Int)) ∧ a.df = []) ?_ (s.length - i) ⟨i, rfl, Nat.le_refl _, hi, hrd0, Fr.refl _ _, rfl, by simp (maxSteps := 9999999) (disch := first | omega | (simp only [hN] <;> omega) | fail) only [go_sem, simprocAttr], by simp (maxSteps := 9999999) (disch := first | omega | (simp only [hN] <;> omega) | fail) only [go_sem, simprocAttr], by simp (maxSteps := 9999999) (disch := first | omega | (simp only [hN] <;> omega) | fail) only [go_sem, simprocAttr], rfl⟩
  rintro n ⟨t, df⟩ h1 ⟨j, hn, hij, hjs, hrd1, hfr, htw, h0, h1', h5, hdf⟩
  simp only at h0 h1' h5 hdf
  subst hdf
  simp (maxSteps := 9999999) (disch := first | omega | (simp only [hN] <;> omega) | fail) only [go_sem, simprocAttr, h0, h1', h5]
  refine here_spec hrd1 hp ?_
  simp (maxSteps := 9999999) (disch := first | omega | (simp only [hN] <;> omega) | fail) only [go_sem, simprocAttr, h0, h1', h5]
  obtain ⟨ver1, hr1⟩ := hrd1
  (first | refine condP_splitN (fun hb => ?_) (fun hb => ?_) | refine wantP_splitN (fun hb => ?_) (fun hb => ?_) | refine wantPD_splitN (fun hb => ?_) (fun hb => ?_) | refine condP_split (fun hb => ?_) (fun hb => ?_) | refine wantP_split (fun hb => ?_) (fun hb => ?_) | refine wantPD_split (fun hb => ?_) (fun hb => ?_))
  · obtain ⟨hl, hw⟩ := takeWhile_drop p s j hb
    simp (maxSteps := 9999999) (disch := first | omega | (simp only [hN] <;> omega) | fail) only [go_sem, simprocAttr, h0, hr1]
    refine ⟨s.length - (j + 1), by omega, j + 1, rfl, by omega, by omega, ⟨ver1 + 1, by (first | (simp (maxSteps := 9999999) (disch := first | omega | (simp only [hN] <;> omega) | fail) only [go_sem, simprocAttr]; done) | (simp (maxSteps := 9999999) (disch := first | omega | (simp only [hN] <;> omega) | fail) only [go_sem, simprocAttr]; rfl))⟩, hfr.trans (Fr.upd _ _ _), by omega, ?_⟩
    simp (maxSteps := 9999999) (disch := first | omega | (simp only [hN] <;> omega) | fail) only [go_sem, simprocAttr, h0, h1', h5]
  · have hw := takeWhile_stop p s j hb
    rw [hw] at htw
    have hj : j = i + ((s.drop i).takeWhile p).length := by simpa using htw
    have hle := takeWhile_le p s i hi
    simp (maxSteps := 9999999) (disch := first | omega | (simp only [hN] <;> omega) | fail) only [go_sem, simprocAttr, h0, h1', h5, hb, hr1]
    rw [hj] at hr1 ⊢
    simp (maxSteps := 9999999) (disch := first | omega | (simp only [hN] <;> omega) | fail) only [go_sem, simprocAttr, Nat.add_sub_cancel_left, take_takeWhile]
    exact hQ _ ⟨_, hr1⟩ hfr
end Go.Ev
