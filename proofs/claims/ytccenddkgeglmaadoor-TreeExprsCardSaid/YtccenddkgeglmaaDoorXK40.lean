/- The document's lexer: bytes, keywords, blanks. -/
import Derived.Test.YtccenddkgeglmaaDoorXK4
import Derived.Test.YtccenddkgeglmaaDoorPuA
set_option linter.all false
set_option linter.unusedVariables false
set_option linter.unusedSimpArgs false
namespace Go.Ev
open Go
set_option maxRecDepth 100000
set_option maxHeartbeats 4000000

theorem rdigit_spec : PureB 92 isDigit := by
  intro c h Q hQ
  refine WF.code F92 rfl ?_
  simp (disch := first | omega | (simp only [hN] <;> omega) | fail) only [go_sem, simprocAttr]
  repeat' ((first | refine kA (fun hb => ?_) (fun hb => ?_) | refine kB (fun hb => ?_) (fun hb => ?_) | refine kC (fun hb => ?_) (fun hb => ?_) | refine kD (fun hb => ?_) (fun hb => ?_) | refine kE (fun hb => ?_) (fun hb => ?_) | refine kF (fun hb => ?_) (fun hb => ?_)) <;> simp (disch := first | omega | (simp only [hN] <;> omega) | fail) only [go_sem, simprocAttr, hb])
  all_goals (refine useB hQ (Bool.eq_iff_iff.2 ?_); simp [isDigit] at *; try omega)
theorem rletter_spec : PureB 91 isLetter := by
  intro c h Q hQ
  refine WF.code F91 rfl ?_
  simp (disch := first | omega | (simp only [hN] <;> omega) | fail) only [go_sem, simprocAttr]
  repeat' ((first | refine kA (fun hb => ?_) (fun hb => ?_) | refine kB (fun hb => ?_) (fun hb => ?_) | refine kC (fun hb => ?_) (fun hb => ?_) | refine kD (fun hb => ?_) (fun hb => ?_) | refine kE (fun hb => ?_) (fun hb => ?_) | refine kF (fun hb => ?_) (fun hb => ?_)) <;> simp (disch := first | omega | (simp only [hN] <;> omega) | fail) only [go_sem, simprocAttr, hb])
  all_goals (refine useB hQ (Bool.eq_iff_iff.2 ?_); simp [isLetter] at *; try omega)
theorem rkey_spec {w : Bs} {h : AHeap} {Q : QR} (hQ : Q (.ret (.bool (keys.contains w))) h) : WF F 24 [.str w] h Q := by
  refine WF.code F24 rfl ?_
  simp (disch := first | omega | (simp only [hN] <;> omega) | fail) only [go_sem, simprocAttr]
  (first | refine kA (fun k0 => ?_) (fun k0 => ?_) | refine kB (fun k0 => ?_) (fun k0 => ?_) | refine kC (fun k0 => ?_) (fun k0 => ?_) | refine kD (fun k0 => ?_) (fun k0 => ?_) | refine kE (fun k0 => ?_) (fun k0 => ?_) | refine kF (fun k0 => ?_) (fun k0 => ?_))
  · have : w = [97, 100, 100] := by simpa using k0
    subst this
    simp (disch := first | omega | (simp only [hN] <;> omega) | fail) only [go_sem, simprocAttr]
    exact hQ
  simp (disch := first | omega | (simp only [hN] <;> omega) | fail) only [go_sem, simprocAttr]
  (first | refine kA (fun k1 => ?_) (fun k1 => ?_) | refine kB (fun k1 => ?_) (fun k1 => ?_) | refine kC (fun k1 => ?_) (fun k1 => ?_) | refine kD (fun k1 => ?_) (fun k1 => ?_) | refine kE (fun k1 => ?_) (fun k1 => ?_) | refine kF (fun k1 => ?_) (fun k1 => ?_))
  · have : w = [97, 116, 111, 109, 105, 99] := by simpa using k1
    subst this
    simp (disch := first | omega | (simp only [hN] <;> omega) | fail) only [go_sem, simprocAttr]
    exact hQ
  simp (disch := first | omega | (simp only [hN] <;> omega) | fail) only [go_sem, simprocAttr]
  (first | refine kA (fun k2 => ?_) (fun k2 => ?_) | refine kB (fun k2 => ?_) (fun k2 => ?_) | refine kC (fun k2 => ?_) (fun k2 => ?_) | refine kD (fun k2 => ?_) (fun k2 => ?_) | refine kE (fun k2 => ?_) (fun k2 => ?_) | refine kF (fun k2 => ?_) (fun k2 => ?_))
  · have : w = [98, 111, 111, 108] := by simpa using k2
    subst this
    simp (disch := first | omega | (simp only [hN] <;> omega) | fail) only [go_sem, simprocAttr]
    exact hQ
  simp (disch := first | omega | (simp only [hN] <;> omega) | fail) only [go_sem, simprocAttr]
  (first | refine kA (fun k3 => ?_) (fun k3 => ?_) | refine kB (fun k3 => ?_) (fun k3 => ?_) | refine kC (fun k3 => ?_) (fun k3 => ?_) | refine kD (fun k3 => ?_) (fun k3 => ?_) | refine kE (fun k3 => ?_) (fun k3 => ?_) | refine kF (fun k3 => ?_) (fun k3 => ?_))
  · have : w = [99, 104, 97, 110] := by simpa using k3
    subst this
    simp (disch := first | omega | (simp only [hN] <;> omega) | fail) only [go_sem, simprocAttr]
    exact hQ
  simp (disch := first | omega | (simp only [hN] <;> omega) | fail) only [go_sem, simprocAttr]
  (first | refine kA (fun k4 => ?_) (fun k4 => ?_) | refine kB (fun k4 => ?_) (fun k4 => ?_) | refine kC (fun k4 => ?_) (fun k4 => ?_) | refine kD (fun k4 => ?_) (fun k4 => ?_) | refine kE (fun k4 => ?_) (fun k4 => ?_) | refine kF (fun k4 => ?_) (fun k4 => ?_))
  · have : w = [101, 108, 115, 101] := by simpa using k4
    subst this
    simp (disch := first | omega | (simp only [hN] <;> omega) | fail) only [go_sem, simprocAttr]
    exact hQ
  simp (disch := first | omega | (simp only [hN] <;> omega) | fail) only [go_sem, simprocAttr]
  (first | refine kA (fun k5 => ?_) (fun k5 => ?_) | refine kB (fun k5 => ?_) (fun k5 => ?_) | refine kC (fun k5 => ?_) (fun k5 => ?_) | refine kD (fun k5 => ?_) (fun k5 => ?_) | refine kE (fun k5 => ?_) (fun k5 => ?_) | refine kF (fun k5 => ?_) (fun k5 => ?_))
  · have : w = [102, 97, 105, 108] := by simpa using k5
    subst this
    simp (disch := first | omega | (simp only [hN] <;> omega) | fail) only [go_sem, simprocAttr]
    exact hQ
  simp (disch := first | omega | (simp only [hN] <;> omega) | fail) only [go_sem, simprocAttr]
  (first | refine kA (fun k6 => ?_) (fun k6 => ?_) | refine kB (fun k6 => ?_) (fun k6 => ?_) | refine kC (fun k6 => ?_) (fun k6 => ?_) | refine kD (fun k6 => ?_) (fun k6 => ?_) | refine kE (fun k6 => ?_) (fun k6 => ?_) | refine kF (fun k6 => ?_) (fun k6 => ?_))
  · have : w = [102, 97, 108, 115, 101] := by simpa using k6
    subst this
    simp (disch := first | omega | (simp only [hN] <;> omega) | fail) only [go_sem, simprocAttr]
    exact hQ
  simp (disch := first | omega | (simp only [hN] <;> omega) | fail) only [go_sem, simprocAttr]
  (first | refine kA (fun k7 => ?_) (fun k7 => ?_) | refine kB (fun k7 => ?_) (fun k7 => ?_) | refine kC (fun k7 => ?_) (fun k7 => ?_) | refine kD (fun k7 => ?_) (fun k7 => ?_) | refine kE (fun k7 => ?_) (fun k7 => ?_) | refine kF (fun k7 => ?_) (fun k7 => ?_))
  · have : w = [102, 108, 111, 97, 116] := by simpa using k7
    subst this
    simp (disch := first | omega | (simp only [hN] <;> omega) | fail) only [go_sem, simprocAttr]
    exact hQ
  simp (disch := first | omega | (simp only [hN] <;> omega) | fail) only [go_sem, simprocAttr]
  (first | refine kA (fun k8 => ?_) (fun k8 => ?_) | refine kB (fun k8 => ?_) (fun k8 => ?_) | refine kC (fun k8 => ?_) (fun k8 => ?_) | refine kD (fun k8 => ?_) (fun k8 => ?_) | refine kE (fun k8 => ?_) (fun k8 => ?_) | refine kF (fun k8 => ?_) (fun k8 => ?_))
  · have : w = [102, 117, 110, 99] := by simpa using k8
    subst this
    simp (disch := first | omega | (simp only [hN] <;> omega) | fail) only [go_sem, simprocAttr]
    exact hQ
  simp (disch := first | omega | (simp only [hN] <;> omega) | fail) only [go_sem, simprocAttr]
  (first | refine kA (fun k9 => ?_) (fun k9 => ?_) | refine kB (fun k9 => ?_) (fun k9 => ?_) | refine kC (fun k9 => ?_) (fun k9 => ?_) | refine kD (fun k9 => ?_) (fun k9 => ?_) | refine kE (fun k9 => ?_) (fun k9 => ?_) | refine kF (fun k9 => ?_) (fun k9 => ?_))
  · have : w = [103, 101, 116] := by simpa using k9
    subst this
    simp (disch := first | omega | (simp only [hN] <;> omega) | fail) only [go_sem, simprocAttr]
    exact hQ
  simp (disch := first | omega | (simp only [hN] <;> omega) | fail) only [go_sem, simprocAttr]
  (first | refine kA (fun k10 => ?_) (fun k10 => ?_) | refine kB (fun k10 => ?_) (fun k10 => ?_) | refine kC (fun k10 => ?_) (fun k10 => ?_) | refine kD (fun k10 => ?_) (fun k10 => ?_) | refine kE (fun k10 => ?_) (fun k10 => ?_) | refine kF (fun k10 => ?_) (fun k10 => ?_))
  · have : w = [103, 111] := by simpa using k10
    subst this
    simp (disch := first | omega | (simp only [hN] <;> omega) | fail) only [go_sem, simprocAttr]
    exact hQ
  simp (disch := first | omega | (simp only [hN] <;> omega) | fail) only [go_sem, simprocAttr]
  (first | refine kA (fun k11 => ?_) (fun k11 => ?_) | refine kB (fun k11 => ?_) (fun k11 => ?_) | refine kC (fun k11 => ?_) (fun k11 => ?_) | refine kD (fun k11 => ?_) (fun k11 => ?_) | refine kE (fun k11 => ?_) (fun k11 => ?_) | refine kF (fun k11 => ?_) (fun k11 => ?_))
  · have : w = [105, 102] := by simpa using k11
    subst this
    simp (disch := first | omega | (simp only [hN] <;> omega) | fail) only [go_sem, simprocAttr]
    exact hQ
  simp (disch := first | omega | (simp only [hN] <;> omega) | fail) only [go_sem, simprocAttr]
  (first | refine kA (fun k12 => ?_) (fun k12 => ?_) | refine kB (fun k12 => ?_) (fun k12 => ?_) | refine kC (fun k12 => ?_) (fun k12 => ?_) | refine kD (fun k12 => ?_) (fun k12 => ?_) | refine kE (fun k12 => ?_) (fun k12 => ?_) | refine kF (fun k12 => ?_) (fun k12 => ?_))
  · have : w = [105, 110, 116] := by simpa using k12
    subst this
    simp (disch := first | omega | (simp only [hN] <;> omega) | fail) only [go_sem, simprocAttr]
    exact hQ
  simp (disch := first | omega | (simp only [hN] <;> omega) | fail) only [go_sem, simprocAttr]
  (first | refine kA (fun k13 => ?_) (fun k13 => ?_) | refine kB (fun k13 => ?_) (fun k13 => ?_) | refine kC (fun k13 => ?_) (fun k13 => ?_) | refine kD (fun k13 => ?_) (fun k13 => ?_) | refine kE (fun k13 => ?_) (fun k13 => ?_) | refine kF (fun k13 => ?_) (fun k13 => ?_))
  · have : w = [108, 111, 99, 107] := by simpa using k13
    subst this
    simp (disch := first | omega | (simp only [hN] <;> omega) | fail) only [go_sem, simprocAttr]
    exact hQ
  simp (disch := first | omega | (simp only [hN] <;> omega) | fail) only [go_sem, simprocAttr]
  (first | refine kA (fun k14 => ?_) (fun k14 => ?_) | refine kB (fun k14 => ?_) (fun k14 => ?_) | refine kC (fun k14 => ?_) (fun k14 => ?_) | refine kD (fun k14 => ?_) (fun k14 => ?_) | refine kE (fun k14 => ?_) (fun k14 => ?_) | refine kF (fun k14 => ?_) (fun k14 => ?_))
  · have : w = [109, 117, 116, 101, 120] := by simpa using k14
    subst this
    simp (disch := first | omega | (simp only [hN] <;> omega) | fail) only [go_sem, simprocAttr]
    exact hQ
  simp (disch := first | omega | (simp only [hN] <;> omega) | fail) only [go_sem, simprocAttr]
  (first | refine kA (fun k15 => ?_) (fun k15 => ?_) | refine kB (fun k15 => ?_) (fun k15 => ?_) | refine kC (fun k15 => ?_) (fun k15 => ?_) | refine kD (fun k15 => ?_) (fun k15 => ?_) | refine kE (fun k15 => ?_) (fun k15 => ?_) | refine kF (fun k15 => ?_) (fun k15 => ?_))
  · have : w = [112, 117, 116] := by simpa using k15
    subst this
    simp (disch := first | omega | (simp only [hN] <;> omega) | fail) only [go_sem, simprocAttr]
    exact hQ
  simp (disch := first | omega | (simp only [hN] <;> omega) | fail) only [go_sem, simprocAttr]
  (first | refine kA (fun k16 => ?_) (fun k16 => ?_) | refine kB (fun k16 => ?_) (fun k16 => ?_) | refine kC (fun k16 => ?_) (fun k16 => ?_) | refine kD (fun k16 => ?_) (fun k16 => ?_) | refine kE (fun k16 => ?_) (fun k16 => ?_) | refine kF (fun k16 => ?_) (fun k16 => ?_))
  · have : w = [114, 101, 99, 118] := by simpa using k16
    subst this
    simp (disch := first | omega | (simp only [hN] <;> omega) | fail) only [go_sem, simprocAttr]
    exact hQ
  simp (disch := first | omega | (simp only [hN] <;> omega) | fail) only [go_sem, simprocAttr]
  (first | refine kA (fun k17 => ?_) (fun k17 => ?_) | refine kB (fun k17 => ?_) (fun k17 => ?_) | refine kC (fun k17 => ?_) (fun k17 => ?_) | refine kD (fun k17 => ?_) (fun k17 => ?_) | refine kE (fun k17 => ?_) (fun k17 => ?_) | refine kF (fun k17 => ?_) (fun k17 => ?_))
  · have : w = [114, 101, 116, 117, 114, 110] := by simpa using k17
    subst this
    simp (disch := first | omega | (simp only [hN] <;> omega) | fail) only [go_sem, simprocAttr]
    exact hQ
  simp (disch := first | omega | (simp only [hN] <;> omega) | fail) only [go_sem, simprocAttr]
  (first | refine kA (fun k18 => ?_) (fun k18 => ?_) | refine kB (fun k18 => ?_) (fun k18 => ?_) | refine kC (fun k18 => ?_) (fun k18 => ?_) | refine kD (fun k18 => ?_) (fun k18 => ?_) | refine kE (fun k18 => ?_) (fun k18 => ?_) | refine kF (fun k18 => ?_) (fun k18 => ?_))
  · have : w = [115, 101, 110, 100] := by simpa using k18
    subst this
    simp (disch := first | omega | (simp only [hN] <;> omega) | fail) only [go_sem, simprocAttr]
    exact hQ
  simp (disch := first | omega | (simp only [hN] <;> omega) | fail) only [go_sem, simprocAttr]
  (first | refine kA (fun k19 => ?_) (fun k19 => ?_) | refine kB (fun k19 => ?_) (fun k19 => ?_) | refine kC (fun k19 => ?_) (fun k19 => ?_) | refine kD (fun k19 => ?_) (fun k19 => ?_) | refine kE (fun k19 => ?_) (fun k19 => ?_) | refine kF (fun k19 => ?_) (fun k19 => ?_))
  · have : w = [116, 114, 117, 101] := by simpa using k19
    subst this
    simp (disch := first | omega | (simp only [hN] <;> omega) | fail) only [go_sem, simprocAttr]
    exact hQ
  simp (disch := first | omega | (simp only [hN] <;> omega) | fail) only [go_sem, simprocAttr]
  (first | refine kA (fun k20 => ?_) (fun k20 => ?_) | refine kB (fun k20 => ?_) (fun k20 => ?_) | refine kC (fun k20 => ?_) (fun k20 => ?_) | refine kD (fun k20 => ?_) (fun k20 => ?_) | refine kE (fun k20 => ?_) (fun k20 => ?_) | refine kF (fun k20 => ?_) (fun k20 => ?_))
  · have : w = [117, 110, 108, 111, 99, 107] := by simpa using k20
    subst this
    simp (disch := first | omega | (simp only [hN] <;> omega) | fail) only [go_sem, simprocAttr]
    exact hQ
  simp (disch := first | omega | (simp only [hN] <;> omega) | fail) only [go_sem, simprocAttr]
  (first | refine kA (fun k21 => ?_) (fun k21 => ?_) | refine kB (fun k21 => ?_) (fun k21 => ?_) | refine kC (fun k21 => ?_) (fun k21 => ?_) | refine kD (fun k21 => ?_) (fun k21 => ?_) | refine kE (fun k21 => ?_) (fun k21 => ?_) | refine kF (fun k21 => ?_) (fun k21 => ?_))
  · have : w = [118, 97, 114] := by simpa using k21
    subst this
    simp (disch := first | omega | (simp only [hN] <;> omega) | fail) only [go_sem, simprocAttr]
    exact hQ
  simp (disch := first | omega | (simp only [hN] <;> omega) | fail) only [go_sem, simprocAttr]
  (first | refine kA (fun k22 => ?_) (fun k22 => ?_) | refine kB (fun k22 => ?_) (fun k22 => ?_) | refine kC (fun k22 => ?_) (fun k22 => ?_) | refine kD (fun k22 => ?_) (fun k22 => ?_) | refine kE (fun k22 => ?_) (fun k22 => ?_) | refine kF (fun k22 => ?_) (fun k22 => ?_))
  · have : w = [119, 104, 105, 108, 101] := by simpa using k22
    subst this
    simp (disch := first | omega | (simp only [hN] <;> omega) | fail) only [go_sem, simprocAttr]
    exact hQ
  simp (disch := first | omega | (simp only [hN] <;> omega) | fail) only [go_sem, simprocAttr]
  have : keys.contains w = false := by
    simp only [keys, List.contains_cons, k0, k1, k2, k3, k4, k5, k6, k7, k8, k9, k10, k11, k12, k13, k14, k15, k16, k17, k18, k19, k20, k21, k22]
    rfl
  rw [this] at hQ
  exact hQ

theorem hasP_cc {l : Bs} : hasP (47 :: 47 :: l) [47, 47] = true := rfl
theorem drop_cons {s : Bs} {p : Nat} {c : UInt8} (h : s[p]? = some c) : s.drop p = c :: s.drop (p + 1) := by
  obtain ⟨h1, h2⟩ := List.getElem?_eq_some_iff.1 h
  rw [List.drop_eq_getElem_cons h1, h2]
theorem skip_blank1 {c : UInt8} {l : Bs} (h : isBlank c = true) : skip (c :: l) = skip l := by
  have := skip_blanks (b := [c]) (s := l) (by simp [h])
  simpa using this
theorem skip_note {l : Bs} : skip (47 :: 47 :: l) = skip ((47 :: 47 :: l).dropWhile notNL) := by
  have e : skip1 (47 :: 47 :: l) = (47 :: 47 :: l).dropWhile notNL := by
    have hd : (47 :: 47 :: l).dropWhile isBlank = 47 :: 47 :: l := by rw [List.dropWhile_cons, if_neg (by decide)]
    unfold skip1
    simp only [hd, hasP_cc, if_true]
  rw [← skip_skip1, e]
theorem get_lt {s : Bs} {p : Nat} (h : p < s.length) : ∃ c, s[p]? = some c := ⟨_, List.getElem?_eq_getElem h⟩
theorem rblanks_spec {s : Bs} (hlen : s.length < 2 ^ 62) {p0 : Nat} (ha : p0 ≤ s.length) {h : AHeap} {Q : QR} (hQ : Q (.ret (.int .i64 ((s.length - (skip (s.drop p0)).length : Nat) : Int))) h) : WF F 67 [.str s, .int .i64 (p0 : Int)] h Q := by
  refine WF.code F67 rfl ?_
  simp (disch := first | omega | (simp only [hN] <;> omega) | fail) only [go_sem, simprocAttr]
  generalize hL : skip (s.drop p0) = L at hQ
  refine wp_loop (fun n a h' => ∃ p : Nat, n = s.length - p ∧ p ≤ s.length ∧ skip (s.drop p) = L ∧ h' = h ∧ a.tm.get 0 = some (.str s) ∧ a.tm.get 1 = some (.int .i64 (p : Int)) ∧ a.df = []) ?_ (s.length - p0) ?_
  · rintro n ⟨t, df⟩ h2 ⟨p, hn, hp, hsk, rfl, k0, k1, hdf⟩
    simp only at k0 k1 hdf
    subst hdf
    simp (disch := first | omega | (simp only [hN] <;> omega) | fail) only [go_sem, simprocAttr, k0, k1]
    (first | refine kA (fun hlt => ?_) (fun hlt => ?_) | refine kB (fun hlt => ?_) (fun hlt => ?_) | refine kC (fun hlt => ?_) (fun hlt => ?_) | refine kD (fun hlt => ?_) (fun hlt => ?_) | refine kE (fun hlt => ?_) (fun hlt => ?_) | refine kF (fun hlt => ?_) (fun hlt => ?_))
    · have hpl : p < s.length := (by have := of_decide_eq_true hlt; omega)
      obtain ⟨c, hc⟩ := get_lt hpl
      have hdr := drop_cons hc
      simp (disch := first | omega | (simp only [hN] <;> omega) | fail) only [go_sem, simprocAttr, k0, k1, hc, Int.toNat_natCast]
      have hnx : isBlank c = true → skip (s.drop (p + 1)) = L := fun hb => by rw [← hsk, hdr, skip_blank1 hb]
      have hbl : isBlank c = (((c.toNat : Int) == 32) || ((c.toNat : Int) == 9) || ((c.toNat : Int) == 10) || ((c.toNat : Int) == 13)) := by
        rw [Bool.eq_iff_iff]; simp [isBlank]; omega
      generalize e1 : ((c.toNat : Int) == 32) = b1 at hbl
      generalize e2 : ((c.toNat : Int) == 9) = b2 at hbl
      generalize e3 : ((c.toNat : Int) == 10) = b3 at hbl
      generalize e4 : ((c.toNat : Int) == 13) = b4 at hbl
      cases b1
      case true =>
        have hb : isBlank c = true := by rw [hbl]; rfl
        simp (disch := first | omega | (simp only [hN] <;> omega) | fail) only [go_sem, simprocAttr, k0, k1, e1]
        exact ⟨_, hn ▸ Nat.sub_lt_sub_left hpl (Nat.lt_succ_self p), p + 1, rfl, hpl, hnx hb, rfl⟩
      cases b2
      case true =>
        have hb : isBlank c = true := by rw [hbl]; rfl
        simp (disch := first | omega | (simp only [hN] <;> omega) | fail) only [go_sem, simprocAttr, k0, k1, e1, e2]
        exact ⟨_, hn ▸ Nat.sub_lt_sub_left hpl (Nat.lt_succ_self p), p + 1, rfl, hpl, hnx hb, rfl⟩
      cases b3
      case true =>
        have hb : isBlank c = true := by rw [hbl]; rfl
        simp (disch := first | omega | (simp only [hN] <;> omega) | fail) only [go_sem, simprocAttr, k0, k1, e1, e2, e3]
        exact ⟨_, hn ▸ Nat.sub_lt_sub_left hpl (Nat.lt_succ_self p), p + 1, rfl, hpl, hnx hb, rfl⟩
      cases b4
      case true =>
        have hb : isBlank c = true := by rw [hbl]; rfl
        simp (disch := first | omega | (simp only [hN] <;> omega) | fail) only [go_sem, simprocAttr, k0, k1, e1, e2, e3, e4]
        exact ⟨_, hn ▸ Nat.sub_lt_sub_left hpl (Nat.lt_succ_self p), p + 1, rfl, hpl, hnx hb, rfl⟩
      have hb : isBlank c = false := by rw [hbl]; rfl
      have stay : hasP (s.drop p) [47, 47] = false → s.length - L.length = p := by
        intro hh
        have : s.drop p = L := by rw [← hsk, hdr]; rw [hdr] at hh; exact (skip_of_normal hb hh).symm
        rw [← this, List.length_drop]; omega
      cases e5 : ((c.toNat : Int) == 47)
      · have h47 : hasP (s.drop p) [47, 47] = false := by
          rw [hdr]
          cases q : hasP (c :: s.drop (p + 1)) [47, 47] with
          | false => rfl
          | true =>
            obtain ⟨r, hr⟩ := hasP_2 q
            simp only [List.cons.injEq] at hr
            rw [hr.1] at e5; cases e5
        rw [stay h47] at hQ
        simp (disch := first | omega | (simp only [hN] <;> omega) | fail) only [go_sem, simprocAttr, k0, k1, e1, e2, e3, e4, e5, bne]
        exact hQ
      have hc47 : c = 47 := by
        have : (c.toNat : Int) = 47 := by simpa using e5
        exact UInt8.toNat_inj.1 (by have : c.toNat = 47 := by omega
                                    rw [this]; rfl)
      subst hc47
      by_cases hp1 : p + 1 < s.length
      · obtain ⟨d, hd⟩ := get_lt hp1
        have hdr1 := drop_cons hd
        have g1 : decide ((p : Int) + 1 ≥ (s.length : Int)) = false := decide_eq_false (by omega)
        cases e6 : ((d.toNat : Int) == 47)
        · have h47 : hasP (s.drop p) [47, 47] = false := by
            rw [hdr, hdr1]
            cases q : hasP (47 :: d :: s.drop (p + 1 + 1)) [47, 47] with
            | false => rfl
            | true =>
              obtain ⟨r, hr⟩ := hasP_2 q
              simp only [List.cons.injEq] at hr
              rw [hr.2.1] at e6; cases e6
          rw [stay h47] at hQ
          have tn : ((p : Int) + 1).toNat = p + 1 := by omega
          simp (disch := first | omega | (simp only [hN] <;> omega) | fail) only [go_sem, simprocAttr, k0, k1, e1, e2, e3, e4, e5, bne, g1, tn, hd, e6]
          exact hQ
        · have hd47 : d = 47 := by
            have : (d.toNat : Int) = 47 := by simpa using e6
            exact UInt8.toNat_inj.1 (by have : d.toNat = 47 := by omega
                                        rw [this]; rfl)
          subst hd47
          have hnote : skip ((s.drop p).dropWhile notNL) = L := by rw [← hsk, hdr, hdr1, ← skip_note]
          have tn : ((p : Int) + 1).toNat = p + 1 := by omega
          simp (disch := first | omega | (simp only [hN] <;> omega) | fail) only [go_sem, simprocAttr, k0, k1, e1, e2, e3, e4, e5, bne, g1, tn, hd, e6]
          refine wp_loop (fun m a h' => ∃ q : Nat, m = s.length - q ∧ q ≤ s.length ∧ p ≤ q ∧ (s.drop q).dropWhile notNL = (s.drop p).dropWhile notNL ∧ h' = h2 ∧ a.tm.get 0 = some (.str s) ∧ a.tm.get 1 = some (.int .i64 (q : Int)) ∧ a.df = []) ?_ (s.length - p) ?_
          · rintro m ⟨t, df⟩ h3 ⟨q, hm, hq, hpq, hqn, rfl, j0, j1, hdf⟩
            simp only at j0 j1 hdf
            subst hdf
            by_cases hql : q < s.length
            · obtain ⟨x, hx⟩ := get_lt hql
              have hdx := drop_cons hx
              have g2 : decide ((q : Int) < (s.length : Int)) = true := decide_eq_true (by omega)
              cases hnl : notNL x
              · have e7 : ((x.toNat : Int) == 10) = true := by simp [notNL] at hnl; simp; omega
                simp (disch := first | omega | (simp only [hN] <;> omega) | fail) only [go_sem, simprocAttr, j0, j1, g2, Int.toNat_natCast, hx, e7, bne]
                have hst : (s.drop q).dropWhile notNL = s.drop q := by rw [hdx, List.dropWhile_cons, hnl]; rfl
                have hpq2 : p < q := by
                  rcases Nat.lt_or_ge p q with g | g
                  · exact g
                  · have : q = p := by omega
                    subst this
                    rw [hc] at hx
                    cases hx
                    cases hnl
                exact ⟨_, hn ▸ Nat.sub_lt_sub_left hpl hpq2, q, rfl, hq, by rw [← hst, hqn]; exact hnote, rfl⟩
              · have e7 : ((x.toNat : Int) == 10) = false := by simp [notNL] at hnl; simp; omega
                simp (disch := first | omega | (simp only [hN] <;> omega) | fail) only [go_sem, simprocAttr, j0, j1, g2, Int.toNat_natCast, hx, e7, bne]
                exact ⟨_, hm ▸ Nat.sub_lt_sub_left hql (Nat.lt_succ_self q), q + 1, rfl, hql, by omega, by rw [← hqn, hdx, List.dropWhile_cons, hnl]; rfl, rfl⟩
            · have hql : q = s.length := by omega
              subst hql
              have g2 : decide ((s.length : Int) < (s.length : Int)) = false := decide_eq_false (by omega)
              simp (disch := first | omega | (simp only [hN] <;> omega) | fail) only [go_sem, simprocAttr, j0, j1, g2]
              exact ⟨_, hn ▸ Nat.sub_lt_sub_left hpl hpl, s.length, rfl, hq, by rw [← hnote, ← hqn, List.drop_length]; rfl, rfl⟩
          · exact ⟨p, rfl, by omega, Nat.le_refl _, rfl, rfl, by simp (disch := first | omega | (simp only [hN] <;> omega) | fail) only [go_sem, simprocAttr, k0], by simp (disch := first | omega | (simp only [hN] <;> omega) | fail) only [go_sem, simprocAttr, k1], by simp (disch := first | omega | (simp only [hN] <;> omega) | fail) only [go_sem, simprocAttr]⟩
      · have g1 : decide ((p : Int) + 1 ≥ (s.length : Int)) = true := decide_eq_true (by omega)
        have h47 : hasP (s.drop p) [47, 47] = false := by
          rw [hdr, List.drop_of_length_le (by omega)]; rfl
        rw [stay h47] at hQ
        simp (disch := first | omega | (simp only [hN] <;> omega) | fail) only [go_sem, simprocAttr, k0, k1, e1, e2, e3, e4, e5, bne, g1]
        exact hQ
    · have hpl : p = s.length := by have := of_decide_eq_false hlt; omega
      subst hpl
      rw [List.drop_length] at hsk
      have : L = [] := by rw [← hsk]; rfl
      subst this
      simp (disch := first | omega | (simp only [hN] <;> omega) | fail) only [go_sem, simprocAttr, k1]
      exact hQ
  · exact ⟨p0, rfl, ha, hL, rfl, by simp (disch := first | omega | (simp only [hN] <;> omega) | fail) only [go_sem, simprocAttr], by simp (disch := first | omega | (simp only [hN] <;> omega) | fail) only [go_sem, simprocAttr], by simp (disch := first | omega | (simp only [hN] <;> omega) | fail) only [go_sem, simprocAttr]⟩
end Go.Ev
