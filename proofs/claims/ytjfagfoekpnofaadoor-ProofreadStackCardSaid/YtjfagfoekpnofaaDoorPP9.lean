/- Proofread: an instruction's form (printed by genp9.py). -/
import Derived.Test.YtjfagfoekpnofaaDoorPP5
set_option linter.all false
set_option linter.unusedVariables false
set_option linter.unusedSimpArgs false
namespace Go.Ev
open Go
set_option maxRecDepth 100000
set_option maxHeartbeats 4000000

theorem CdV.flats {h : AHeap} {c : Cd} {pv chv fv bv : AV} (k : CdV h c pv chv fv bv) : (pv.flat = true ∧ pv.cells = [pv]) ∧ (chv.flat = true ∧ chv.cells = [chv]) ∧ (fv.flat = true ∧ fv.cells = [fv]) ∧ (bv.flat = true ∧ bv.cells = [bv]) := by
  obtain ⟨css, hE, hfs⟩ := k.funcs
  exact ⟨k.places.1.flat, k.chans.flat, hfs.flat, k.body.flat⟩
theorem CdV.lens {h : AHeap} {c : Cd} {pv chv fv bv : AV} (k : CdV h c pv chv fv bv) : lenA pv = some (c.places.length : Int) ∧ lenA chv = some (c.chans.length : Int) ∧ lenA fv = some (c.funcs.length : Int) ∧ lenA bv = some (c.body.length : Int) := by
  obtain ⟨css, hE, hfs⟩ := k.funcs
  exact ⟨k.places.1.len, k.chans.len, hfs.len, k.body.len⟩
theorem CdV.smalls {h : AHeap} {c : Cd} {pv chv fv bv : AV} (k : CdV h c pv chv fv bv) : c.places.length < 2 ^ 61 ∧ c.chans.length < 2 ^ 61 ∧ c.funcs.length < 2 ^ 61 ∧ c.body.length < 2 ^ 61 := by
  obtain ⟨css, hE, hfs⟩ := k.funcs
  exact ⟨k.places.1.small, k.chans.small, hfs.small, k.body.small⟩
theorem eq5 {a b c d e a' b' c' d' e' : Int} : eqT (.many [.int, .int, .int, .int, .int]) (.agg [.int .i64 a, .int .i64 b, .int .i64 c, .int .u64 d, .int .i64 e]) (.agg [.int .i64 a', .int .i64 b', .int .i64 c', .int .u64 d', .int .i64 e']) = some ((a == a') && (b == b') && (c == c') && (d == d') && (e == e')) := by
  simp only [eqT, eqKs, eqK]
  cases a == a' <;> cases b == b' <;> cases c == c' <;> cases d == d' <;> cases e == e' <;> rfl
theorem instr_spec {h : AHeap} {c : Cd} {x : Ins} {pv chv fv bv : AV} (hC : CdV h c pv chv fv bv) (hm : 0 ≤ c.mutexes ∧ c.mutexes ≤ 32) (ha : 0 ≤ c.atomics ∧ c.atomics ≤ 32) {Q : QR} (hQ : ∀ h', Fr h.n h h' → Q (.ret (.bool (insOk c x))) h') : WF F 26 [.agg (cdC c pv chv fv bv), .agg (insC x)] h Q := by
  refine WF.code F26 rfl ?_
  obtain ⟨f1, f2, f3, f4⟩ := hC.flats
  obtain ⟨l1, l2, l3, l4⟩ := hC.lens
  obtain ⟨s1, s2, s3, s4⟩ := hC.smalls
  simp (disch := first | omega | (simp only [hN] <;> omega) | fail) only [go_sem, simprocAttr, cdC, insC, f1.1, f1.2, f2.1, f2.2, f3.1, f3.2, f4.1, f4.2]
  generalize hHH : AHeap.upd (AHeap.alloc _ _) _ _ _ = H
  have hHn : H.n = h.n + 3 := by rw [← hHH]; simp (disch := first | omega | (simp only [hN] <;> omega) | fail) only [go_sem, simprocAttr]
  have b0 : H.get h.n = some ⟨0, .cells .own 0 (cdC c pv chv fv bv)⟩ := by rw [← hHH]; simp (disch := first | omega | (simp only [hN] <;> omega) | fail) only [go_sem, simprocAttr, cdC]
  have b1 : H.get (h.n + 1) = some ⟨0, .cells .own 0 (insC x)⟩ := by rw [← hHH]; simp (disch := first | omega | (simp only [hN] <;> omega) | fail) only [go_sem, simprocAttr, insC]
  have b2 : H.get (h.n + 1 + 1) = some ⟨1, .cells .own 0 [.int .i64 x.op, .int .i64 x.a, .int .i64 0, .int .u64 0, .int .i64 x.pos]⟩ := by rw [← hHH]; simp (disch := first | omega | (simp only [hN] <;> omega) | fail) only [go_sem, simprocAttr]
  have bo : ∀ b', b' < h.n → H.get b' = h.get b' := fun b' hb' => by rw [← hHH]; simp (disch := first | omega | (simp only [hN] <;> omega) | fail) only [go_sem, simprocAttr]
  have hCH : CdV H c pv chv fv bv := hC.fr ⟨by omega, fun b hb _ => bo b hb⟩
  clear hHH hC
  refine within_spec ?_
  obtain ⟨op, a, b, bits, pos⟩ := x
  simp only at b0 b1 b2 hQ ⊢
  have d2 : decide (h.n = h.n + 1) = false := decide_eq_false (by omega)
  cases hp : inside pos 0 8192
  · have hz : insOk c ⟨op, a, b, bits, pos⟩ = false := by simp [insOk, hp]
    rw [hz] at hQ
    by_cases e1 : op = 1
    · subst e1
      simp (disch := first | omega | (simp only [hN] <;> omega) | fail) only [go_sem, simprocAttr, d2, cdC, insC, b0, b1, b2, eq5, f1.1, f1.2, f2.1, f2.2, f3.1, f3.2, f4.1, f4.2]
      exact hQ _ ⟨by first | omega | (simp only [hN]; omega), fun b hb hne => by (try simp only [hN] at hb hne); simp (disch := first | omega | (simp only [hN] <;> omega) | fail) only [go_sem, simprocAttr, bo]⟩
    by_cases e2 : op = 2
    · subst e2
      simp (disch := first | omega | (simp only [hN] <;> omega) | fail) only [go_sem, simprocAttr, d2, cdC, insC, b0, b1, b2, eq5, f1.1, f1.2, f2.1, f2.2, f3.1, f3.2, f4.1, f4.2]
      exact hQ _ ⟨by first | omega | (simp only [hN]; omega), fun b hb hne => by (try simp only [hN] at hb hne); simp (disch := first | omega | (simp only [hN] <;> omega) | fail) only [go_sem, simprocAttr, bo]⟩
    by_cases e3 : op = 3
    · subst e3
      simp (disch := first | omega | (simp only [hN] <;> omega) | fail) only [go_sem, simprocAttr, d2, cdC, insC, b0, b1, b2, eq5, f1.1, f1.2, f2.1, f2.2, f3.1, f3.2, f4.1, f4.2]
      exact hQ _ ⟨by first | omega | (simp only [hN]; omega), fun b hb hne => by (try simp only [hN] at hb hne); simp (disch := first | omega | (simp only [hN] <;> omega) | fail) only [go_sem, simprocAttr, bo]⟩
    by_cases e4 : op = 4
    · subst e4
      simp (disch := first | omega | (simp only [hN] <;> omega) | fail) only [go_sem, simprocAttr, d2, cdC, insC, b0, b1, b2, eq5, f1.1, f1.2, f2.1, f2.2, f3.1, f3.2, f4.1, f4.2]
      exact hQ _ ⟨by first | omega | (simp only [hN]; omega), fun b hb hne => by (try simp only [hN] at hb hne); simp (disch := first | omega | (simp only [hN] <;> omega) | fail) only [go_sem, simprocAttr, bo]⟩
    by_cases e5 : op = 5
    · subst e5
      simp (disch := first | omega | (simp only [hN] <;> omega) | fail) only [go_sem, simprocAttr, d2, cdC, insC, b0, b1, b2, eq5, f1.1, f1.2, f2.1, f2.2, f3.1, f3.2, f4.1, f4.2]
      exact hQ _ ⟨by first | omega | (simp only [hN]; omega), fun b hb hne => by (try simp only [hN] at hb hne); simp (disch := first | omega | (simp only [hN] <;> omega) | fail) only [go_sem, simprocAttr, bo]⟩
    by_cases e6 : op = 6
    · subst e6
      simp (disch := first | omega | (simp only [hN] <;> omega) | fail) only [go_sem, simprocAttr, d2, cdC, insC, b0, b1, b2, eq5, f1.1, f1.2, f2.1, f2.2, f3.1, f3.2, f4.1, f4.2]
      exact hQ _ ⟨by first | omega | (simp only [hN]; omega), fun b hb hne => by (try simp only [hN] at hb hne); simp (disch := first | omega | (simp only [hN] <;> omega) | fail) only [go_sem, simprocAttr, bo]⟩
    by_cases e7 : op = 7
    · subst e7
      simp (disch := first | omega | (simp only [hN] <;> omega) | fail) only [go_sem, simprocAttr, d2, cdC, insC, b0, b1, b2, eq5, f1.1, f1.2, f2.1, f2.2, f3.1, f3.2, f4.1, f4.2]
      exact hQ _ ⟨by first | omega | (simp only [hN]; omega), fun b hb hne => by (try simp only [hN] at hb hne); simp (disch := first | omega | (simp only [hN] <;> omega) | fail) only [go_sem, simprocAttr, bo]⟩
    by_cases e8 : op = 8
    · subst e8
      simp (disch := first | omega | (simp only [hN] <;> omega) | fail) only [go_sem, simprocAttr, d2, cdC, insC, b0, b1, b2, eq5, f1.1, f1.2, f2.1, f2.2, f3.1, f3.2, f4.1, f4.2]
      exact hQ _ ⟨by first | omega | (simp only [hN]; omega), fun b hb hne => by (try simp only [hN] at hb hne); simp (disch := first | omega | (simp only [hN] <;> omega) | fail) only [go_sem, simprocAttr, bo]⟩
    by_cases e9 : op = 9
    · subst e9
      simp (disch := first | omega | (simp only [hN] <;> omega) | fail) only [go_sem, simprocAttr, d2, cdC, insC, b0, b1, b2, eq5, f1.1, f1.2, f2.1, f2.2, f3.1, f3.2, f4.1, f4.2]
      exact hQ _ ⟨by first | omega | (simp only [hN]; omega), fun b hb hne => by (try simp only [hN] at hb hne); simp (disch := first | omega | (simp only [hN] <;> omega) | fail) only [go_sem, simprocAttr, bo]⟩
    by_cases e10 : op = 10
    · subst e10
      simp (disch := first | omega | (simp only [hN] <;> omega) | fail) only [go_sem, simprocAttr, d2, cdC, insC, b0, b1, b2, eq5, f1.1, f1.2, f2.1, f2.2, f3.1, f3.2, f4.1, f4.2]
      exact hQ _ ⟨by first | omega | (simp only [hN]; omega), fun b hb hne => by (try simp only [hN] at hb hne); simp (disch := first | omega | (simp only [hN] <;> omega) | fail) only [go_sem, simprocAttr, bo]⟩
    by_cases e11 : op = 11
    · subst e11
      simp (disch := first | omega | (simp only [hN] <;> omega) | fail) only [go_sem, simprocAttr, d2, cdC, insC, b0, b1, b2, eq5, f1.1, f1.2, f2.1, f2.2, f3.1, f3.2, f4.1, f4.2]
      exact hQ _ ⟨by first | omega | (simp only [hN]; omega), fun b hb hne => by (try simp only [hN] at hb hne); simp (disch := first | omega | (simp only [hN] <;> omega) | fail) only [go_sem, simprocAttr, bo]⟩
    by_cases e12 : op = 12
    · subst e12
      simp (disch := first | omega | (simp only [hN] <;> omega) | fail) only [go_sem, simprocAttr, d2, cdC, insC, b0, b1, b2, eq5, f1.1, f1.2, f2.1, f2.2, f3.1, f3.2, f4.1, f4.2]
      exact hQ _ ⟨by first | omega | (simp only [hN]; omega), fun b hb hne => by (try simp only [hN] at hb hne); simp (disch := first | omega | (simp only [hN] <;> omega) | fail) only [go_sem, simprocAttr, bo]⟩
    by_cases e13 : op = 13
    · subst e13
      simp (disch := first | omega | (simp only [hN] <;> omega) | fail) only [go_sem, simprocAttr, d2, cdC, insC, b0, b1, b2, eq5, f1.1, f1.2, f2.1, f2.2, f3.1, f3.2, f4.1, f4.2]
      exact hQ _ ⟨by first | omega | (simp only [hN]; omega), fun b hb hne => by (try simp only [hN] at hb hne); simp (disch := first | omega | (simp only [hN] <;> omega) | fail) only [go_sem, simprocAttr, bo]⟩
    by_cases e14 : op = 14
    · subst e14
      simp (disch := first | omega | (simp only [hN] <;> omega) | fail) only [go_sem, simprocAttr, d2, cdC, insC, b0, b1, b2, eq5, f1.1, f1.2, f2.1, f2.2, f3.1, f3.2, f4.1, f4.2]
      exact hQ _ ⟨by first | omega | (simp only [hN]; omega), fun b hb hne => by (try simp only [hN] at hb hne); simp (disch := first | omega | (simp only [hN] <;> omega) | fail) only [go_sem, simprocAttr, bo]⟩
    by_cases e15 : op = 15
    · subst e15
      simp (disch := first | omega | (simp only [hN] <;> omega) | fail) only [go_sem, simprocAttr, d2, cdC, insC, b0, b1, b2, eq5, f1.1, f1.2, f2.1, f2.2, f3.1, f3.2, f4.1, f4.2]
      exact hQ _ ⟨by first | omega | (simp only [hN]; omega), fun b hb hne => by (try simp only [hN] at hb hne); simp (disch := first | omega | (simp only [hN] <;> omega) | fail) only [go_sem, simprocAttr, bo]⟩
    by_cases e16 : op = 16
    · subst e16
      simp (disch := first | omega | (simp only [hN] <;> omega) | fail) only [go_sem, simprocAttr, d2, cdC, insC, b0, b1, b2, eq5, f1.1, f1.2, f2.1, f2.2, f3.1, f3.2, f4.1, f4.2]
      exact hQ _ ⟨by first | omega | (simp only [hN]; omega), fun b hb hne => by (try simp only [hN] at hb hne); simp (disch := first | omega | (simp only [hN] <;> omega) | fail) only [go_sem, simprocAttr, bo]⟩
    by_cases e17 : op = 17
    · subst e17
      simp (disch := first | omega | (simp only [hN] <;> omega) | fail) only [go_sem, simprocAttr, d2, cdC, insC, b0, b1, b2, eq5, f1.1, f1.2, f2.1, f2.2, f3.1, f3.2, f4.1, f4.2]
      exact hQ _ ⟨by first | omega | (simp only [hN]; omega), fun b hb hne => by (try simp only [hN] at hb hne); simp (disch := first | omega | (simp only [hN] <;> omega) | fail) only [go_sem, simprocAttr, bo]⟩
    by_cases e18 : op = 18
    · subst e18
      simp (disch := first | omega | (simp only [hN] <;> omega) | fail) only [go_sem, simprocAttr, d2, cdC, insC, b0, b1, b2, eq5, f1.1, f1.2, f2.1, f2.2, f3.1, f3.2, f4.1, f4.2]
      exact hQ _ ⟨by first | omega | (simp only [hN]; omega), fun b hb hne => by (try simp only [hN] at hb hne); simp (disch := first | omega | (simp only [hN] <;> omega) | fail) only [go_sem, simprocAttr, bo]⟩
    by_cases e19 : op = 19
    · subst e19
      simp (disch := first | omega | (simp only [hN] <;> omega) | fail) only [go_sem, simprocAttr, d2, cdC, insC, b0, b1, b2, eq5, f1.1, f1.2, f2.1, f2.2, f3.1, f3.2, f4.1, f4.2]
      exact hQ _ ⟨by first | omega | (simp only [hN]; omega), fun b hb hne => by (try simp only [hN] at hb hne); simp (disch := first | omega | (simp only [hN] <;> omega) | fail) only [go_sem, simprocAttr, bo]⟩
    by_cases e20 : op = 20
    · subst e20
      simp (disch := first | omega | (simp only [hN] <;> omega) | fail) only [go_sem, simprocAttr, d2, cdC, insC, b0, b1, b2, eq5, f1.1, f1.2, f2.1, f2.2, f3.1, f3.2, f4.1, f4.2]
      exact hQ _ ⟨by first | omega | (simp only [hN]; omega), fun b hb hne => by (try simp only [hN] at hb hne); simp (disch := first | omega | (simp only [hN] <;> omega) | fail) only [go_sem, simprocAttr, bo]⟩
    by_cases e21 : op = 21
    · subst e21
      simp (disch := first | omega | (simp only [hN] <;> omega) | fail) only [go_sem, simprocAttr, d2, cdC, insC, b0, b1, b2, eq5, f1.1, f1.2, f2.1, f2.2, f3.1, f3.2, f4.1, f4.2]
      exact hQ _ ⟨by first | omega | (simp only [hN]; omega), fun b hb hne => by (try simp only [hN] at hb hne); simp (disch := first | omega | (simp only [hN] <;> omega) | fail) only [go_sem, simprocAttr, bo]⟩
    by_cases e22 : op = 22
    · subst e22
      simp (disch := first | omega | (simp only [hN] <;> omega) | fail) only [go_sem, simprocAttr, d2, cdC, insC, b0, b1, b2, eq5, f1.1, f1.2, f2.1, f2.2, f3.1, f3.2, f4.1, f4.2]
      exact hQ _ ⟨by first | omega | (simp only [hN]; omega), fun b hb hne => by (try simp only [hN] at hb hne); simp (disch := first | omega | (simp only [hN] <;> omega) | fail) only [go_sem, simprocAttr, bo]⟩
    by_cases e23 : op = 23
    · subst e23
      simp (disch := first | omega | (simp only [hN] <;> omega) | fail) only [go_sem, simprocAttr, d2, cdC, insC, b0, b1, b2, eq5, f1.1, f1.2, f2.1, f2.2, f3.1, f3.2, f4.1, f4.2]
      exact hQ _ ⟨by first | omega | (simp only [hN]; omega), fun b hb hne => by (try simp only [hN] at hb hne); simp (disch := first | omega | (simp only [hN] <;> omega) | fail) only [go_sem, simprocAttr, bo]⟩
    by_cases e24 : op = 24
    · subst e24
      simp (disch := first | omega | (simp only [hN] <;> omega) | fail) only [go_sem, simprocAttr, d2, cdC, insC, b0, b1, b2, eq5, f1.1, f1.2, f2.1, f2.2, f3.1, f3.2, f4.1, f4.2]
      exact hQ _ ⟨by first | omega | (simp only [hN]; omega), fun b hb hne => by (try simp only [hN] at hb hne); simp (disch := first | omega | (simp only [hN] <;> omega) | fail) only [go_sem, simprocAttr, bo]⟩
    by_cases e25 : op = 25
    · subst e25
      simp (disch := first | omega | (simp only [hN] <;> omega) | fail) only [go_sem, simprocAttr, d2, cdC, insC, b0, b1, b2, eq5, f1.1, f1.2, f2.1, f2.2, f3.1, f3.2, f4.1, f4.2]
      exact hQ _ ⟨by first | omega | (simp only [hN]; omega), fun b hb hne => by (try simp only [hN] at hb hne); simp (disch := first | omega | (simp only [hN] <;> omega) | fail) only [go_sem, simprocAttr, bo]⟩
    by_cases e26 : op = 26
    · subst e26
      simp (disch := first | omega | (simp only [hN] <;> omega) | fail) only [go_sem, simprocAttr, d2, cdC, insC, b0, b1, b2, eq5, f1.1, f1.2, f2.1, f2.2, f3.1, f3.2, f4.1, f4.2]
      exact hQ _ ⟨by first | omega | (simp only [hN]; omega), fun b hb hne => by (try simp only [hN] at hb hne); simp (disch := first | omega | (simp only [hN] <;> omega) | fail) only [go_sem, simprocAttr, bo]⟩
    have g1 : (op == 1) = false := by simp [e1]
    have g2 : (op == 2) = false := by simp [e2]
    have g3 : (op == 3) = false := by simp [e3]
    have g4 : (op == 4) = false := by simp [e4]
    have g5 : (op == 5) = false := by simp [e5]
    have g6 : (op == 6) = false := by simp [e6]
    have g7 : (op == 7) = false := by simp [e7]
    have g8 : (op == 8) = false := by simp [e8]
    have g9 : (op == 9) = false := by simp [e9]
    have g10 : (op == 10) = false := by simp [e10]
    have g11 : (op == 11) = false := by simp [e11]
    have g12 : (op == 12) = false := by simp [e12]
    have g13 : (op == 13) = false := by simp [e13]
    have g14 : (op == 14) = false := by simp [e14]
    have g15 : (op == 15) = false := by simp [e15]
    have g16 : (op == 16) = false := by simp [e16]
    have g17 : (op == 17) = false := by simp [e17]
    have g18 : (op == 18) = false := by simp [e18]
    have g19 : (op == 19) = false := by simp [e19]
    have g20 : (op == 20) = false := by simp [e20]
    have g21 : (op == 21) = false := by simp [e21]
    have g22 : (op == 22) = false := by simp [e22]
    have g23 : (op == 23) = false := by simp [e23]
    have g24 : (op == 24) = false := by simp [e24]
    have g25 : (op == 25) = false := by simp [e25]
    have g26 : (op == 26) = false := by simp [e26]
    simp (disch := first | omega | (simp only [hN] <;> omega) | fail) only [go_sem, simprocAttr, d2, cdC, insC, b0, b1, b2, eq5, f1.1, f1.2, f2.1, f2.2, f3.1, f3.2, f4.1, f4.2, g1, g2, g3, g4, g5, g6, g7, g8, g9, g10, g11, g12, g13, g14, g15, g16, g17, g18, g19, g20, g21, g22, g23, g24, g25, g26]
    exact hQ _ ⟨by first | omega | (simp only [hN]; omega), fun b hb hne => by (try simp only [hN] at hb hne); simp (disch := first | omega | (simp only [hN] <;> omega) | fail) only [go_sem, simprocAttr, bo]⟩
  · have hz : insOk c ⟨op, a, b, bits, pos⟩ = insB c ⟨op, a, b, bits, pos⟩ := by simp [insOk, hp]
    rw [hz] at hQ
    clear hz hp
    by_cases e1 : op = 1
    · subst e1
      simp (disch := first | omega | (simp only [hN] <;> omega) | fail) only [go_sem, simprocAttr, d2, cdC, insC, b0, b1, b2, eq5, f1.1, f1.2, f2.1, f2.2, f3.1, f3.2, f4.1, f4.2]
      cases hw : decide (a ≥ 0)
      · have hz : insB c ⟨1, a, b, bits, pos⟩ = false := by simp at hw; simp [insB]; omega
        rw [hz] at hQ
        simp (disch := first | omega | (simp only [hN] <;> omega) | fail) only [go_sem, simprocAttr, d2, cdC, insC, b0, b1, b2, eq5, f1.1, f1.2, f2.1, f2.2, f3.1, f3.2, f4.1, f4.2]
        exact hQ _ ⟨by first | omega | (simp only [hN]; omega), fun b hb hne => by (try simp only [hN] at hb hne); simp (disch := first | omega | (simp only [hN] <;> omega) | fail) only [go_sem, simprocAttr, bo]⟩
      · have hz : insB c ⟨1, a, b, bits, pos⟩ = (b == 0 && bits == 0) := by simp at hw; simp [insB, hw]
        rw [hz] at hQ
        simp (disch := first | omega | (simp only [hN] <;> omega) | fail) only [go_sem, simprocAttr, d2, cdC, insC, b0, b1, b2, eq5, f1.1, f1.2, f2.1, f2.2, f3.1, f3.2, f4.1, f4.2]
        exact hQ _ ⟨by first | omega | (simp only [hN]; omega), fun b hb hne => by (try simp only [hN] at hb hne); simp (disch := first | omega | (simp only [hN] <;> omega) | fail) only [go_sem, simprocAttr, bo]⟩
    by_cases e2 : op = 2
    · subst e2
      simp (disch := first | omega | (simp only [hN] <;> omega) | fail) only [go_sem, simprocAttr, d2, cdC, insC, b0, b1, b2, eq5, f1.1, f1.2, f2.1, f2.2, f3.1, f3.2, f4.1, f4.2]
      have hz : insB c ⟨2, a, b, bits, pos⟩ = (a == 0 && b == 0) := by simp [insB]
      rw [hz] at hQ
      exact hQ _ ⟨by first | omega | (simp only [hN]; omega), fun b hb hne => by (try simp only [hN] at hb hne); simp (disch := first | omega | (simp only [hN] <;> omega) | fail) only [go_sem, simprocAttr, bo]⟩
    by_cases e3 : op = 3
    · subst e3
      simp (disch := first | omega | (simp only [hN] <;> omega) | fail) only [go_sem, simprocAttr, d2, cdC, insC, b0, b1, b2, eq5, f1.1, f1.2, f2.1, f2.2, f3.1, f3.2, f4.1, f4.2]
      refine within_spec ?_
      cases hw : inside a 0 1
      · have hz : insB c ⟨3, a, b, bits, pos⟩ = false := by simp [insB, hw]
        rw [hz] at hQ
        simp (disch := first | omega | (simp only [hN] <;> omega) | fail) only [go_sem, simprocAttr, d2, cdC, insC, b0, b1, b2, eq5, f1.1, f1.2, f2.1, f2.2, f3.1, f3.2, f4.1, f4.2]
        exact hQ _ ⟨by first | omega | (simp only [hN]; omega), fun b hb hne => by (try simp only [hN] at hb hne); simp (disch := first | omega | (simp only [hN] <;> omega) | fail) only [go_sem, simprocAttr, bo]⟩
      · have hz : insB c ⟨3, a, b, bits, pos⟩ = (b == 0 && bits == 0) := by simp [insB, hw]
        rw [hz] at hQ
        simp (disch := first | omega | (simp only [hN] <;> omega) | fail) only [go_sem, simprocAttr, d2, cdC, insC, b0, b1, b2, eq5, f1.1, f1.2, f2.1, f2.2, f3.1, f3.2, f4.1, f4.2]
        exact hQ _ ⟨by first | omega | (simp only [hN]; omega), fun b hb hne => by (try simp only [hN] at hb hne); simp (disch := first | omega | (simp only [hN] <;> omega) | fail) only [go_sem, simprocAttr, bo]⟩
    by_cases e4 : op = 4
    · subst e4
      simp (disch := first | omega | (simp only [hN] <;> omega) | fail) only [go_sem, simprocAttr, d2, cdC, insC, b0, b1, b2, eq5, f1.1, f1.2, f2.1, f2.2, f3.1, f3.2, f4.1, f4.2]
      refine within_spec ?_
      cases hw : inside a 0 31
      · have hz : insB c ⟨4, a, b, bits, pos⟩ = false := by simp [insB, hw]
        rw [hz] at hQ
        simp (disch := first | omega | (simp only [hN] <;> omega) | fail) only [go_sem, simprocAttr, d2, cdC, insC, b0, b1, b2, eq5, f1.1, f1.2, f2.1, f2.2, f3.1, f3.2, f4.1, f4.2]
        exact hQ _ ⟨by first | omega | (simp only [hN]; omega), fun b hb hne => by (try simp only [hN] at hb hne); simp (disch := first | omega | (simp only [hN] <;> omega) | fail) only [go_sem, simprocAttr, bo]⟩
      · have hz : insB c ⟨4, a, b, bits, pos⟩ = (b == 0 && bits == 0) := by simp [insB, hw]
        rw [hz] at hQ
        simp (disch := first | omega | (simp only [hN] <;> omega) | fail) only [go_sem, simprocAttr, d2, cdC, insC, b0, b1, b2, eq5, f1.1, f1.2, f2.1, f2.2, f3.1, f3.2, f4.1, f4.2]
        exact hQ _ ⟨by first | omega | (simp only [hN]; omega), fun b hb hne => by (try simp only [hN] at hb hne); simp (disch := first | omega | (simp only [hN] <;> omega) | fail) only [go_sem, simprocAttr, bo]⟩
    by_cases e5 : op = 5
    · subst e5
      simp (disch := first | omega | (simp only [hN] <;> omega) | fail) only [go_sem, simprocAttr, d2, cdC, insC, b0, b1, b2, eq5, f1.1, f1.2, f2.1, f2.2, f3.1, f3.2, f4.1, f4.2]
      refine within_spec ?_
      cases hw : inside a 0 31
      · have hz : insB c ⟨5, a, b, bits, pos⟩ = false := by simp [insB, hw]
        rw [hz] at hQ
        simp (disch := first | omega | (simp only [hN] <;> omega) | fail) only [go_sem, simprocAttr, d2, cdC, insC, b0, b1, b2, eq5, f1.1, f1.2, f2.1, f2.2, f3.1, f3.2, f4.1, f4.2]
        exact hQ _ ⟨by first | omega | (simp only [hN]; omega), fun b hb hne => by (try simp only [hN] at hb hne); simp (disch := first | omega | (simp only [hN] <;> omega) | fail) only [go_sem, simprocAttr, bo]⟩
      · have hz : insB c ⟨5, a, b, bits, pos⟩ = (b == 0 && bits == 0) := by simp [insB, hw]
        rw [hz] at hQ
        simp (disch := first | omega | (simp only [hN] <;> omega) | fail) only [go_sem, simprocAttr, d2, cdC, insC, b0, b1, b2, eq5, f1.1, f1.2, f2.1, f2.2, f3.1, f3.2, f4.1, f4.2]
        exact hQ _ ⟨by first | omega | (simp only [hN]; omega), fun b hb hne => by (try simp only [hN] at hb hne); simp (disch := first | omega | (simp only [hN] <;> omega) | fail) only [go_sem, simprocAttr, bo]⟩
    by_cases e6 : op = 6
    · subst e6
      simp (disch := first | omega | (simp only [hN] <;> omega) | fail) only [go_sem, simprocAttr, d2, cdC, insC, b0, b1, b2, eq5, f1.1, f1.2, f2.1, f2.2, f3.1, f3.2, f4.1, f4.2, l1]
      refine within_spec ?_
      cases hw : inside a 0 ((c.places.length : Int) - 1)
      · have hz : insB c ⟨6, a, b, bits, pos⟩ = false := by simp [insB, hw]
        rw [hz] at hQ
        simp (disch := first | omega | (simp only [hN] <;> omega) | fail) only [go_sem, simprocAttr, d2, cdC, insC, b0, b1, b2, eq5, f1.1, f1.2, f2.1, f2.2, f3.1, f3.2, f4.1, f4.2]
        exact hQ _ ⟨by first | omega | (simp only [hN]; omega), fun b hb hne => by (try simp only [hN] at hb hne); simp (disch := first | omega | (simp only [hN] <;> omega) | fail) only [go_sem, simprocAttr, bo]⟩
      · have hz : insB c ⟨6, a, b, bits, pos⟩ = (b == 0 && bits == 0) := by simp [insB, hw]
        rw [hz] at hQ
        simp (disch := first | omega | (simp only [hN] <;> omega) | fail) only [go_sem, simprocAttr, d2, cdC, insC, b0, b1, b2, eq5, f1.1, f1.2, f2.1, f2.2, f3.1, f3.2, f4.1, f4.2]
        exact hQ _ ⟨by first | omega | (simp only [hN]; omega), fun b hb hne => by (try simp only [hN] at hb hne); simp (disch := first | omega | (simp only [hN] <;> omega) | fail) only [go_sem, simprocAttr, bo]⟩
    by_cases e7 : op = 7
    · subst e7
      simp (disch := first | omega | (simp only [hN] <;> omega) | fail) only [go_sem, simprocAttr, d2, cdC, insC, b0, b1, b2, eq5, f1.1, f1.2, f2.1, f2.2, f3.1, f3.2, f4.1, f4.2, l1]
      refine within_spec ?_
      cases hw : inside a 0 ((c.places.length : Int) - 1)
      · have hz : insB c ⟨7, a, b, bits, pos⟩ = false := by simp [insB, hw]
        rw [hz] at hQ
        simp (disch := first | omega | (simp only [hN] <;> omega) | fail) only [go_sem, simprocAttr, d2, cdC, insC, b0, b1, b2, eq5, f1.1, f1.2, f2.1, f2.2, f3.1, f3.2, f4.1, f4.2]
        exact hQ _ ⟨by first | omega | (simp only [hN]; omega), fun b hb hne => by (try simp only [hN] at hb hne); simp (disch := first | omega | (simp only [hN] <;> omega) | fail) only [go_sem, simprocAttr, bo]⟩
      · have hz : insB c ⟨7, a, b, bits, pos⟩ = (b == 0 && bits == 0) := by simp [insB, hw]
        rw [hz] at hQ
        simp (disch := first | omega | (simp only [hN] <;> omega) | fail) only [go_sem, simprocAttr, d2, cdC, insC, b0, b1, b2, eq5, f1.1, f1.2, f2.1, f2.2, f3.1, f3.2, f4.1, f4.2]
        exact hQ _ ⟨by first | omega | (simp only [hN]; omega), fun b hb hne => by (try simp only [hN] at hb hne); simp (disch := first | omega | (simp only [hN] <;> omega) | fail) only [go_sem, simprocAttr, bo]⟩
    by_cases e8 : op = 8
    · subst e8
      simp (disch := first | omega | (simp only [hN] <;> omega) | fail) only [go_sem, simprocAttr, d2, cdC, insC, b0, b1, b2, eq5, f1.1, f1.2, f2.1, f2.2, f3.1, f3.2, f4.1, f4.2]
      refine array_spec hCH ?_
      intro h2 hf2
      have hn2 := hf2.n; try simp only [hN] at hn2
      have c0 : h2.get h.n = some ⟨0, .cells .own 0 (cdC c pv chv fv bv)⟩ := by simp (disch := first | omega | (simp only [hN] <;> omega) | fail) only [go_sem, simprocAttr, hf2.old, b0]
      have c1 : h2.get (h.n + 1) = some ⟨0, .cells .own 0 (insC ⟨8, a, b, bits, pos⟩)⟩ := by simp (disch := first | omega | (simp only [hN] <;> omega) | fail) only [go_sem, simprocAttr, hf2.old, b1]
      have c2 : h2.get (h.n + 1 + 1) = some ⟨1, .cells .own 0 [.int .i64 8, .int .i64 a, .int .i64 0, .int .u64 0, .int .i64 pos]⟩ := by simp (disch := first | omega | (simp only [hN] <;> omega) | fail) only [go_sem, simprocAttr, hf2.old, b2]
      have co : ∀ b', b' < h.n → h2.get b' = h.get b' := fun b' hb' => by simp (disch := first | omega | (simp only [hN] <;> omega) | fail) only [go_sem, simprocAttr, hf2.old, bo]
      simp only [insC] at c1
      clear hf2
      cases hw : arrayB c a b
      · have hz : insB c ⟨8, a, b, bits, pos⟩ = false := by simp [insB, hw]
        rw [hz] at hQ
        simp (disch := first | omega | (simp only [hN] <;> omega) | fail) only [go_sem, simprocAttr, c1, c2, eq5]
        exact hQ _ ⟨by first | omega | (simp only [hN]; omega), fun b hb hne => by (try simp only [hN] at hb hne); simp (disch := first | omega | (simp only [hN] <;> omega) | fail) only [go_sem, simprocAttr, co]⟩
      · have hz : insB c ⟨8, a, b, bits, pos⟩ = (bits == 0) := by simp [insB, hw]
        rw [hz] at hQ
        simp (disch := first | omega | (simp only [hN] <;> omega) | fail) only [go_sem, simprocAttr, c1, c2, eq5]
        exact hQ _ ⟨by first | omega | (simp only [hN]; omega), fun b hb hne => by (try simp only [hN] at hb hne); simp (disch := first | omega | (simp only [hN] <;> omega) | fail) only [go_sem, simprocAttr, co]⟩
    by_cases e9 : op = 9
    · subst e9
      simp (disch := first | omega | (simp only [hN] <;> omega) | fail) only [go_sem, simprocAttr, d2, cdC, insC, b0, b1, b2, eq5, f1.1, f1.2, f2.1, f2.2, f3.1, f3.2, f4.1, f4.2]
      refine array_spec hCH ?_
      intro h2 hf2
      have hn2 := hf2.n; try simp only [hN] at hn2
      have c0 : h2.get h.n = some ⟨0, .cells .own 0 (cdC c pv chv fv bv)⟩ := by simp (disch := first | omega | (simp only [hN] <;> omega) | fail) only [go_sem, simprocAttr, hf2.old, b0]
      have c1 : h2.get (h.n + 1) = some ⟨0, .cells .own 0 (insC ⟨9, a, b, bits, pos⟩)⟩ := by simp (disch := first | omega | (simp only [hN] <;> omega) | fail) only [go_sem, simprocAttr, hf2.old, b1]
      have c2 : h2.get (h.n + 1 + 1) = some ⟨1, .cells .own 0 [.int .i64 9, .int .i64 a, .int .i64 0, .int .u64 0, .int .i64 pos]⟩ := by simp (disch := first | omega | (simp only [hN] <;> omega) | fail) only [go_sem, simprocAttr, hf2.old, b2]
      have co : ∀ b', b' < h.n → h2.get b' = h.get b' := fun b' hb' => by simp (disch := first | omega | (simp only [hN] <;> omega) | fail) only [go_sem, simprocAttr, hf2.old, bo]
      simp only [insC] at c1
      clear hf2
      cases hw : arrayB c a b
      · have hz : insB c ⟨9, a, b, bits, pos⟩ = false := by simp [insB, hw]
        rw [hz] at hQ
        simp (disch := first | omega | (simp only [hN] <;> omega) | fail) only [go_sem, simprocAttr, c1, c2, eq5]
        exact hQ _ ⟨by first | omega | (simp only [hN]; omega), fun b hb hne => by (try simp only [hN] at hb hne); simp (disch := first | omega | (simp only [hN] <;> omega) | fail) only [go_sem, simprocAttr, co]⟩
      · have hz : insB c ⟨9, a, b, bits, pos⟩ = (bits == 0) := by simp [insB, hw]
        rw [hz] at hQ
        simp (disch := first | omega | (simp only [hN] <;> omega) | fail) only [go_sem, simprocAttr, c1, c2, eq5]
        exact hQ _ ⟨by first | omega | (simp only [hN]; omega), fun b hb hne => by (try simp only [hN] at hb hne); simp (disch := first | omega | (simp only [hN] <;> omega) | fail) only [go_sem, simprocAttr, co]⟩
    by_cases e10 : op = 10
    · subst e10
      simp (disch := first | omega | (simp only [hN] <;> omega) | fail) only [go_sem, simprocAttr, d2, cdC, insC, b0, b1, b2, eq5, f1.1, f1.2, f2.1, f2.2, f3.1, f3.2, f4.1, f4.2]
      refine operator_spec (op := 10) (by decide) ?_
      intro h2 hf2
      have hn2 := hf2.n; try simp only [hN] at hn2
      have c1 : h2.get (h.n + 1) = some ⟨0, .cells .own 0 (insC ⟨10, a, b, bits, pos⟩)⟩ := by simp (disch := first | omega | (simp only [hN] <;> omega) | fail) only [go_sem, simprocAttr, hf2.old, b1]
      have c2 : h2.get (h.n + 1 + 1) = some ⟨1, .cells .own 0 [.int .i64 10, .int .i64 a, .int .i64 0, .int .u64 0, .int .i64 pos]⟩ := by simp (disch := first | omega | (simp only [hN] <;> omega) | fail) only [go_sem, simprocAttr, hf2.old, b2]
      have co : ∀ b', b' < h.n → h2.get b' = h.get b' := fun b' hb' => by simp (disch := first | omega | (simp only [hN] <;> omega) | fail) only [go_sem, simprocAttr, hf2.old, bo]
      simp only [insC] at c1
      clear hf2
      have hz : insB c ⟨10, a, b, bits, pos⟩ = (!(opName 10 a).isEmpty && b == 0 && bits == 0) := by simp [insB]
      rw [hz] at hQ
      generalize opName 10 a = nm at *
      by_cases hw : nm = []
      · subst hw
        have g1 : (([] : Bs) != []) = false := rfl
        simp (disch := first | omega | (simp only [hN] <;> omega) | fail) only [go_sem, simprocAttr, c1, c2, eq5, g1]
        exact hQ _ ⟨by first | omega | (simp only [hN]; omega), fun b hb hne => by (try simp only [hN] at hb hne); simp (disch := first | omega | (simp only [hN] <;> omega) | fail) only [go_sem, simprocAttr, co]⟩
      · have g1 : (nm == []) = false := by simp [hw]
        have g2 : nm.isEmpty = false := by simp [hw]
        rw [g2] at hQ
        simp (disch := first | omega | (simp only [hN] <;> omega) | fail) only [go_sem, simprocAttr, c1, c2, eq5, g1]
        exact hQ _ ⟨by first | omega | (simp only [hN]; omega), fun b hb hne => by (try simp only [hN] at hb hne); simp (disch := first | omega | (simp only [hN] <;> omega) | fail) only [go_sem, simprocAttr, co]⟩
    by_cases e11 : op = 11
    · subst e11
      simp (disch := first | omega | (simp only [hN] <;> omega) | fail) only [go_sem, simprocAttr, d2, cdC, insC, b0, b1, b2, eq5, f1.1, f1.2, f2.1, f2.2, f3.1, f3.2, f4.1, f4.2]
      refine operator_spec (op := 11) (by decide) ?_
      intro h2 hf2
      have hn2 := hf2.n; try simp only [hN] at hn2
      have c1 : h2.get (h.n + 1) = some ⟨0, .cells .own 0 (insC ⟨11, a, b, bits, pos⟩)⟩ := by simp (disch := first | omega | (simp only [hN] <;> omega) | fail) only [go_sem, simprocAttr, hf2.old, b1]
      have c2 : h2.get (h.n + 1 + 1) = some ⟨1, .cells .own 0 [.int .i64 11, .int .i64 a, .int .i64 0, .int .u64 0, .int .i64 pos]⟩ := by simp (disch := first | omega | (simp only [hN] <;> omega) | fail) only [go_sem, simprocAttr, hf2.old, b2]
      have co : ∀ b', b' < h.n → h2.get b' = h.get b' := fun b' hb' => by simp (disch := first | omega | (simp only [hN] <;> omega) | fail) only [go_sem, simprocAttr, hf2.old, bo]
      simp only [insC] at c1
      clear hf2
      have hz : insB c ⟨11, a, b, bits, pos⟩ = (!(opName 11 a).isEmpty && b == 0 && bits == 0) := by simp [insB]
      rw [hz] at hQ
      generalize opName 11 a = nm at *
      by_cases hw : nm = []
      · subst hw
        have g1 : (([] : Bs) != []) = false := rfl
        simp (disch := first | omega | (simp only [hN] <;> omega) | fail) only [go_sem, simprocAttr, c1, c2, eq5, g1]
        exact hQ _ ⟨by first | omega | (simp only [hN]; omega), fun b hb hne => by (try simp only [hN] at hb hne); simp (disch := first | omega | (simp only [hN] <;> omega) | fail) only [go_sem, simprocAttr, co]⟩
      · have g1 : (nm == []) = false := by simp [hw]
        have g2 : nm.isEmpty = false := by simp [hw]
        rw [g2] at hQ
        simp (disch := first | omega | (simp only [hN] <;> omega) | fail) only [go_sem, simprocAttr, c1, c2, eq5, g1]
        exact hQ _ ⟨by first | omega | (simp only [hN]; omega), fun b hb hne => by (try simp only [hN] at hb hne); simp (disch := first | omega | (simp only [hN] <;> omega) | fail) only [go_sem, simprocAttr, co]⟩
    by_cases e12 : op = 12
    · subst e12
      simp (disch := first | omega | (simp only [hN] <;> omega) | fail) only [go_sem, simprocAttr, d2, cdC, insC, b0, b1, b2, eq5, f1.1, f1.2, f2.1, f2.2, f3.1, f3.2, f4.1, f4.2, l4]
      refine within_spec ?_
      cases hw : inside a 0 ((c.body.length : Int) - 1)
      · have hz : insB c ⟨12, a, b, bits, pos⟩ = false := by simp [insB, hw]
        rw [hz] at hQ
        simp (disch := first | omega | (simp only [hN] <;> omega) | fail) only [go_sem, simprocAttr, d2, cdC, insC, b0, b1, b2, eq5, f1.1, f1.2, f2.1, f2.2, f3.1, f3.2, f4.1, f4.2]
        exact hQ _ ⟨by first | omega | (simp only [hN]; omega), fun b hb hne => by (try simp only [hN] at hb hne); simp (disch := first | omega | (simp only [hN] <;> omega) | fail) only [go_sem, simprocAttr, bo]⟩
      · have hz : insB c ⟨12, a, b, bits, pos⟩ = (b == 0 && bits == 0) := by simp [insB, hw]
        rw [hz] at hQ
        simp (disch := first | omega | (simp only [hN] <;> omega) | fail) only [go_sem, simprocAttr, d2, cdC, insC, b0, b1, b2, eq5, f1.1, f1.2, f2.1, f2.2, f3.1, f3.2, f4.1, f4.2]
        exact hQ _ ⟨by first | omega | (simp only [hN]; omega), fun b hb hne => by (try simp only [hN] at hb hne); simp (disch := first | omega | (simp only [hN] <;> omega) | fail) only [go_sem, simprocAttr, bo]⟩
    by_cases e13 : op = 13
    · subst e13
      simp (disch := first | omega | (simp only [hN] <;> omega) | fail) only [go_sem, simprocAttr, d2, cdC, insC, b0, b1, b2, eq5, f1.1, f1.2, f2.1, f2.2, f3.1, f3.2, f4.1, f4.2, l4]
      refine within_spec ?_
      cases hw : inside a 0 ((c.body.length : Int) - 1)
      · have hz : insB c ⟨13, a, b, bits, pos⟩ = false := by simp [insB, hw]
        rw [hz] at hQ
        simp (disch := first | omega | (simp only [hN] <;> omega) | fail) only [go_sem, simprocAttr, d2, cdC, insC, b0, b1, b2, eq5, f1.1, f1.2, f2.1, f2.2, f3.1, f3.2, f4.1, f4.2]
        exact hQ _ ⟨by first | omega | (simp only [hN]; omega), fun b hb hne => by (try simp only [hN] at hb hne); simp (disch := first | omega | (simp only [hN] <;> omega) | fail) only [go_sem, simprocAttr, bo]⟩
      · simp (disch := first | omega | (simp only [hN] <;> omega) | fail) only [go_sem, simprocAttr, d2, cdC, insC, b0, b1, b2, eq5, f1.1, f1.2, f2.1, f2.2, f3.1, f3.2, f4.1, f4.2]
        refine within_spec ?_
        cases hw2 : inside b 0 1
        · have hz : insB c ⟨13, a, b, bits, pos⟩ = false := by simp [insB, hw, hw2]
          rw [hz] at hQ
          simp (disch := first | omega | (simp only [hN] <;> omega) | fail) only [go_sem, simprocAttr, d2, cdC, insC, b0, b1, b2, eq5, f1.1, f1.2, f2.1, f2.2, f3.1, f3.2, f4.1, f4.2]
          exact hQ _ ⟨by first | omega | (simp only [hN]; omega), fun b hb hne => by (try simp only [hN] at hb hne); simp (disch := first | omega | (simp only [hN] <;> omega) | fail) only [go_sem, simprocAttr, bo]⟩
        · have hz : insB c ⟨13, a, b, bits, pos⟩ = (bits == 0) := by simp [insB, hw, hw2]
          rw [hz] at hQ
          simp (disch := first | omega | (simp only [hN] <;> omega) | fail) only [go_sem, simprocAttr, d2, cdC, insC, b0, b1, b2, eq5, f1.1, f1.2, f2.1, f2.2, f3.1, f3.2, f4.1, f4.2]
          exact hQ _ ⟨by first | omega | (simp only [hN]; omega), fun b hb hne => by (try simp only [hN] at hb hne); simp (disch := first | omega | (simp only [hN] <;> omega) | fail) only [go_sem, simprocAttr, bo]⟩
    by_cases e14 : op = 14
    · subst e14
      simp (disch := first | omega | (simp only [hN] <;> omega) | fail) only [go_sem, simprocAttr, d2, cdC, insC, b0, b1, b2, eq5, f1.1, f1.2, f2.1, f2.2, f3.1, f3.2, f4.1, f4.2, l4]
      refine within_spec ?_
      cases hw : inside a 0 ((c.body.length : Int) - 1)
      · have hz : insB c ⟨14, a, b, bits, pos⟩ = false := by simp [insB, hw]
        rw [hz] at hQ
        simp (disch := first | omega | (simp only [hN] <;> omega) | fail) only [go_sem, simprocAttr, d2, cdC, insC, b0, b1, b2, eq5, f1.1, f1.2, f2.1, f2.2, f3.1, f3.2, f4.1, f4.2]
        exact hQ _ ⟨by first | omega | (simp only [hN]; omega), fun b hb hne => by (try simp only [hN] at hb hne); simp (disch := first | omega | (simp only [hN] <;> omega) | fail) only [go_sem, simprocAttr, bo]⟩
      · simp (disch := first | omega | (simp only [hN] <;> omega) | fail) only [go_sem, simprocAttr, d2, cdC, insC, b0, b1, b2, eq5, f1.1, f1.2, f2.1, f2.2, f3.1, f3.2, f4.1, f4.2]
        refine within_spec ?_
        cases hw2 : inside b 0 1
        · have hz : insB c ⟨14, a, b, bits, pos⟩ = false := by simp [insB, hw, hw2]
          rw [hz] at hQ
          simp (disch := first | omega | (simp only [hN] <;> omega) | fail) only [go_sem, simprocAttr, d2, cdC, insC, b0, b1, b2, eq5, f1.1, f1.2, f2.1, f2.2, f3.1, f3.2, f4.1, f4.2]
          exact hQ _ ⟨by first | omega | (simp only [hN]; omega), fun b hb hne => by (try simp only [hN] at hb hne); simp (disch := first | omega | (simp only [hN] <;> omega) | fail) only [go_sem, simprocAttr, bo]⟩
        · have hz : insB c ⟨14, a, b, bits, pos⟩ = (bits == 0) := by simp [insB, hw, hw2]
          rw [hz] at hQ
          simp (disch := first | omega | (simp only [hN] <;> omega) | fail) only [go_sem, simprocAttr, d2, cdC, insC, b0, b1, b2, eq5, f1.1, f1.2, f2.1, f2.2, f3.1, f3.2, f4.1, f4.2]
          exact hQ _ ⟨by first | omega | (simp only [hN]; omega), fun b hb hne => by (try simp only [hN] at hb hne); simp (disch := first | omega | (simp only [hN] <;> omega) | fail) only [go_sem, simprocAttr, bo]⟩
    by_cases e15 : op = 15
    · subst e15
      simp (disch := first | omega | (simp only [hN] <;> omega) | fail) only [go_sem, simprocAttr, d2, cdC, insC, b0, b1, b2, eq5, f1.1, f1.2, f2.1, f2.2, f3.1, f3.2, f4.1, f4.2]
      refine within_spec ?_
      cases hw : inside a 0 (c.mutexes - 1)
      · have hz : insB c ⟨15, a, b, bits, pos⟩ = false := by simp [insB, hw]
        rw [hz] at hQ
        simp (disch := first | omega | (simp only [hN] <;> omega) | fail) only [go_sem, simprocAttr, d2, cdC, insC, b0, b1, b2, eq5, f1.1, f1.2, f2.1, f2.2, f3.1, f3.2, f4.1, f4.2]
        exact hQ _ ⟨by first | omega | (simp only [hN]; omega), fun b hb hne => by (try simp only [hN] at hb hne); simp (disch := first | omega | (simp only [hN] <;> omega) | fail) only [go_sem, simprocAttr, bo]⟩
      · have hz : insB c ⟨15, a, b, bits, pos⟩ = (b == 0 && bits == 0) := by simp [insB, hw]
        rw [hz] at hQ
        simp (disch := first | omega | (simp only [hN] <;> omega) | fail) only [go_sem, simprocAttr, d2, cdC, insC, b0, b1, b2, eq5, f1.1, f1.2, f2.1, f2.2, f3.1, f3.2, f4.1, f4.2]
        exact hQ _ ⟨by first | omega | (simp only [hN]; omega), fun b hb hne => by (try simp only [hN] at hb hne); simp (disch := first | omega | (simp only [hN] <;> omega) | fail) only [go_sem, simprocAttr, bo]⟩
    by_cases e16 : op = 16
    · subst e16
      simp (disch := first | omega | (simp only [hN] <;> omega) | fail) only [go_sem, simprocAttr, d2, cdC, insC, b0, b1, b2, eq5, f1.1, f1.2, f2.1, f2.2, f3.1, f3.2, f4.1, f4.2]
      refine within_spec ?_
      cases hw : inside a 0 (c.mutexes - 1)
      · have hz : insB c ⟨16, a, b, bits, pos⟩ = false := by simp [insB, hw]
        rw [hz] at hQ
        simp (disch := first | omega | (simp only [hN] <;> omega) | fail) only [go_sem, simprocAttr, d2, cdC, insC, b0, b1, b2, eq5, f1.1, f1.2, f2.1, f2.2, f3.1, f3.2, f4.1, f4.2]
        exact hQ _ ⟨by first | omega | (simp only [hN]; omega), fun b hb hne => by (try simp only [hN] at hb hne); simp (disch := first | omega | (simp only [hN] <;> omega) | fail) only [go_sem, simprocAttr, bo]⟩
      · have hz : insB c ⟨16, a, b, bits, pos⟩ = (b == 0 && bits == 0) := by simp [insB, hw]
        rw [hz] at hQ
        simp (disch := first | omega | (simp only [hN] <;> omega) | fail) only [go_sem, simprocAttr, d2, cdC, insC, b0, b1, b2, eq5, f1.1, f1.2, f2.1, f2.2, f3.1, f3.2, f4.1, f4.2]
        exact hQ _ ⟨by first | omega | (simp only [hN]; omega), fun b hb hne => by (try simp only [hN] at hb hne); simp (disch := first | omega | (simp only [hN] <;> omega) | fail) only [go_sem, simprocAttr, bo]⟩
    by_cases e17 : op = 17
    · subst e17
      simp (disch := first | omega | (simp only [hN] <;> omega) | fail) only [go_sem, simprocAttr, d2, cdC, insC, b0, b1, b2, eq5, f1.1, f1.2, f2.1, f2.2, f3.1, f3.2, f4.1, f4.2, l2]
      refine within_spec ?_
      cases hw : inside a 0 ((c.chans.length : Int) - 1)
      · have hz : insB c ⟨17, a, b, bits, pos⟩ = false := by simp [insB, hw]
        rw [hz] at hQ
        simp (disch := first | omega | (simp only [hN] <;> omega) | fail) only [go_sem, simprocAttr, d2, cdC, insC, b0, b1, b2, eq5, f1.1, f1.2, f2.1, f2.2, f3.1, f3.2, f4.1, f4.2]
        exact hQ _ ⟨by first | omega | (simp only [hN]; omega), fun b hb hne => by (try simp only [hN] at hb hne); simp (disch := first | omega | (simp only [hN] <;> omega) | fail) only [go_sem, simprocAttr, bo]⟩
      · have hz : insB c ⟨17, a, b, bits, pos⟩ = (b == 0 && bits == 0) := by simp [insB, hw]
        rw [hz] at hQ
        simp (disch := first | omega | (simp only [hN] <;> omega) | fail) only [go_sem, simprocAttr, d2, cdC, insC, b0, b1, b2, eq5, f1.1, f1.2, f2.1, f2.2, f3.1, f3.2, f4.1, f4.2]
        exact hQ _ ⟨by first | omega | (simp only [hN]; omega), fun b hb hne => by (try simp only [hN] at hb hne); simp (disch := first | omega | (simp only [hN] <;> omega) | fail) only [go_sem, simprocAttr, bo]⟩
    by_cases e18 : op = 18
    · subst e18
      simp (disch := first | omega | (simp only [hN] <;> omega) | fail) only [go_sem, simprocAttr, d2, cdC, insC, b0, b1, b2, eq5, f1.1, f1.2, f2.1, f2.2, f3.1, f3.2, f4.1, f4.2, l2]
      refine within_spec ?_
      cases hw : inside a 0 ((c.chans.length : Int) - 1)
      · have hz : insB c ⟨18, a, b, bits, pos⟩ = false := by simp [insB, hw]
        rw [hz] at hQ
        simp (disch := first | omega | (simp only [hN] <;> omega) | fail) only [go_sem, simprocAttr, d2, cdC, insC, b0, b1, b2, eq5, f1.1, f1.2, f2.1, f2.2, f3.1, f3.2, f4.1, f4.2]
        exact hQ _ ⟨by first | omega | (simp only [hN]; omega), fun b hb hne => by (try simp only [hN] at hb hne); simp (disch := first | omega | (simp only [hN] <;> omega) | fail) only [go_sem, simprocAttr, bo]⟩
      · have hz : insB c ⟨18, a, b, bits, pos⟩ = (b == 0 && bits == 0) := by simp [insB, hw]
        rw [hz] at hQ
        simp (disch := first | omega | (simp only [hN] <;> omega) | fail) only [go_sem, simprocAttr, d2, cdC, insC, b0, b1, b2, eq5, f1.1, f1.2, f2.1, f2.2, f3.1, f3.2, f4.1, f4.2]
        exact hQ _ ⟨by first | omega | (simp only [hN]; omega), fun b hb hne => by (try simp only [hN] at hb hne); simp (disch := first | omega | (simp only [hN] <;> omega) | fail) only [go_sem, simprocAttr, bo]⟩
    by_cases e19 : op = 19
    · subst e19
      simp (disch := first | omega | (simp only [hN] <;> omega) | fail) only [go_sem, simprocAttr, d2, cdC, insC, b0, b1, b2, eq5, f1.1, f1.2, f2.1, f2.2, f3.1, f3.2, f4.1, f4.2]
      refine within_spec ?_
      cases hw : inside a 0 (c.atomics - 1)
      · have hz : insB c ⟨19, a, b, bits, pos⟩ = false := by simp [insB, hw]
        rw [hz] at hQ
        simp (disch := first | omega | (simp only [hN] <;> omega) | fail) only [go_sem, simprocAttr, d2, cdC, insC, b0, b1, b2, eq5, f1.1, f1.2, f2.1, f2.2, f3.1, f3.2, f4.1, f4.2]
        exact hQ _ ⟨by first | omega | (simp only [hN]; omega), fun b hb hne => by (try simp only [hN] at hb hne); simp (disch := first | omega | (simp only [hN] <;> omega) | fail) only [go_sem, simprocAttr, bo]⟩
      · have hz : insB c ⟨19, a, b, bits, pos⟩ = (b == 0 && bits == 0) := by simp [insB, hw]
        rw [hz] at hQ
        simp (disch := first | omega | (simp only [hN] <;> omega) | fail) only [go_sem, simprocAttr, d2, cdC, insC, b0, b1, b2, eq5, f1.1, f1.2, f2.1, f2.2, f3.1, f3.2, f4.1, f4.2]
        exact hQ _ ⟨by first | omega | (simp only [hN]; omega), fun b hb hne => by (try simp only [hN] at hb hne); simp (disch := first | omega | (simp only [hN] <;> omega) | fail) only [go_sem, simprocAttr, bo]⟩
    by_cases e20 : op = 20
    · subst e20
      simp (disch := first | omega | (simp only [hN] <;> omega) | fail) only [go_sem, simprocAttr, d2, cdC, insC, b0, b1, b2, eq5, f1.1, f1.2, f2.1, f2.2, f3.1, f3.2, f4.1, f4.2]
      refine within_spec ?_
      cases hw : inside a 0 (c.atomics - 1)
      · have hz : insB c ⟨20, a, b, bits, pos⟩ = false := by simp [insB, hw]
        rw [hz] at hQ
        simp (disch := first | omega | (simp only [hN] <;> omega) | fail) only [go_sem, simprocAttr, d2, cdC, insC, b0, b1, b2, eq5, f1.1, f1.2, f2.1, f2.2, f3.1, f3.2, f4.1, f4.2]
        exact hQ _ ⟨by first | omega | (simp only [hN]; omega), fun b hb hne => by (try simp only [hN] at hb hne); simp (disch := first | omega | (simp only [hN] <;> omega) | fail) only [go_sem, simprocAttr, bo]⟩
      · have hz : insB c ⟨20, a, b, bits, pos⟩ = (b == 0 && bits == 0) := by simp [insB, hw]
        rw [hz] at hQ
        simp (disch := first | omega | (simp only [hN] <;> omega) | fail) only [go_sem, simprocAttr, d2, cdC, insC, b0, b1, b2, eq5, f1.1, f1.2, f2.1, f2.2, f3.1, f3.2, f4.1, f4.2]
        exact hQ _ ⟨by first | omega | (simp only [hN]; omega), fun b hb hne => by (try simp only [hN] at hb hne); simp (disch := first | omega | (simp only [hN] <;> omega) | fail) only [go_sem, simprocAttr, bo]⟩
    by_cases e21 : op = 21
    · subst e21
      simp (disch := first | omega | (simp only [hN] <;> omega) | fail) only [go_sem, simprocAttr, d2, cdC, insC, b0, b1, b2, eq5, f1.1, f1.2, f2.1, f2.2, f3.1, f3.2, f4.1, f4.2]
      refine within_spec ?_
      cases hw : inside a 0 (c.atomics - 1)
      · have hz : insB c ⟨21, a, b, bits, pos⟩ = false := by simp [insB, hw]
        rw [hz] at hQ
        simp (disch := first | omega | (simp only [hN] <;> omega) | fail) only [go_sem, simprocAttr, d2, cdC, insC, b0, b1, b2, eq5, f1.1, f1.2, f2.1, f2.2, f3.1, f3.2, f4.1, f4.2]
        exact hQ _ ⟨by first | omega | (simp only [hN]; omega), fun b hb hne => by (try simp only [hN] at hb hne); simp (disch := first | omega | (simp only [hN] <;> omega) | fail) only [go_sem, simprocAttr, bo]⟩
      · have hz : insB c ⟨21, a, b, bits, pos⟩ = (b == 0 && bits == 0) := by simp [insB, hw]
        rw [hz] at hQ
        simp (disch := first | omega | (simp only [hN] <;> omega) | fail) only [go_sem, simprocAttr, d2, cdC, insC, b0, b1, b2, eq5, f1.1, f1.2, f2.1, f2.2, f3.1, f3.2, f4.1, f4.2]
        exact hQ _ ⟨by first | omega | (simp only [hN]; omega), fun b hb hne => by (try simp only [hN] at hb hne); simp (disch := first | omega | (simp only [hN] <;> omega) | fail) only [go_sem, simprocAttr, bo]⟩
    by_cases e22 : op = 22
    · subst e22
      simp (disch := first | omega | (simp only [hN] <;> omega) | fail) only [go_sem, simprocAttr, d2, cdC, insC, b0, b1, b2, eq5, f1.1, f1.2, f2.1, f2.2, f3.1, f3.2, f4.1, f4.2, l3]
      refine within_spec ?_
      cases hw : inside a 0 ((c.funcs.length : Int) - 1)
      · have hz : insB c ⟨22, a, b, bits, pos⟩ = false := by simp [insB, hw]
        rw [hz] at hQ
        simp (disch := first | omega | (simp only [hN] <;> omega) | fail) only [go_sem, simprocAttr, d2, cdC, insC, b0, b1, b2, eq5, f1.1, f1.2, f2.1, f2.2, f3.1, f3.2, f4.1, f4.2]
        exact hQ _ ⟨by first | omega | (simp only [hN]; omega), fun b hb hne => by (try simp only [hN] at hb hne); simp (disch := first | omega | (simp only [hN] <;> omega) | fail) only [go_sem, simprocAttr, bo]⟩
      · have hz : insB c ⟨22, a, b, bits, pos⟩ = (b == 0 && bits == 0) := by simp [insB, hw]
        rw [hz] at hQ
        simp (disch := first | omega | (simp only [hN] <;> omega) | fail) only [go_sem, simprocAttr, d2, cdC, insC, b0, b1, b2, eq5, f1.1, f1.2, f2.1, f2.2, f3.1, f3.2, f4.1, f4.2]
        exact hQ _ ⟨by first | omega | (simp only [hN]; omega), fun b hb hne => by (try simp only [hN] at hb hne); simp (disch := first | omega | (simp only [hN] <;> omega) | fail) only [go_sem, simprocAttr, bo]⟩
    by_cases e23 : op = 23
    · subst e23
      simp (disch := first | omega | (simp only [hN] <;> omega) | fail) only [go_sem, simprocAttr, d2, cdC, insC, b0, b1, b2, eq5, f1.1, f1.2, f2.1, f2.2, f3.1, f3.2, f4.1, f4.2, l3]
      refine within_spec ?_
      cases hw : inside a 0 ((c.funcs.length : Int) - 1)
      · have hz : insB c ⟨23, a, b, bits, pos⟩ = false := by simp [insB, hw]
        rw [hz] at hQ
        simp (disch := first | omega | (simp only [hN] <;> omega) | fail) only [go_sem, simprocAttr, d2, cdC, insC, b0, b1, b2, eq5, f1.1, f1.2, f2.1, f2.2, f3.1, f3.2, f4.1, f4.2]
        exact hQ _ ⟨by first | omega | (simp only [hN]; omega), fun b hb hne => by (try simp only [hN] at hb hne); simp (disch := first | omega | (simp only [hN] <;> omega) | fail) only [go_sem, simprocAttr, bo]⟩
      · have hz : insB c ⟨23, a, b, bits, pos⟩ = (b == 0 && bits == 0) := by simp [insB, hw]
        rw [hz] at hQ
        simp (disch := first | omega | (simp only [hN] <;> omega) | fail) only [go_sem, simprocAttr, d2, cdC, insC, b0, b1, b2, eq5, f1.1, f1.2, f2.1, f2.2, f3.1, f3.2, f4.1, f4.2]
        exact hQ _ ⟨by first | omega | (simp only [hN]; omega), fun b hb hne => by (try simp only [hN] at hb hne); simp (disch := first | omega | (simp only [hN] <;> omega) | fail) only [go_sem, simprocAttr, bo]⟩
    by_cases e24 : op = 24
    · subst e24
      simp (disch := first | omega | (simp only [hN] <;> omega) | fail) only [go_sem, simprocAttr, d2, cdC, insC, b0, b1, b2, eq5, f1.1, f1.2, f2.1, f2.2, f3.1, f3.2, f4.1, f4.2]
      have hz : insB c ⟨24, a, b, bits, pos⟩ = (a == 0 && b == 0 && bits == 0) := by simp [insB]
      rw [hz] at hQ
      exact hQ _ ⟨by first | omega | (simp only [hN]; omega), fun b hb hne => by (try simp only [hN] at hb hne); simp (disch := first | omega | (simp only [hN] <;> omega) | fail) only [go_sem, simprocAttr, bo]⟩
    by_cases e25 : op = 25
    · subst e25
      simp (disch := first | omega | (simp only [hN] <;> omega) | fail) only [go_sem, simprocAttr, d2, cdC, insC, b0, b1, b2, eq5, f1.1, f1.2, f2.1, f2.2, f3.1, f3.2, f4.1, f4.2]
      have hz : insB c ⟨25, a, b, bits, pos⟩ = (a == 0 && b == 0 && bits == 0) := by simp [insB]
      rw [hz] at hQ
      exact hQ _ ⟨by first | omega | (simp only [hN]; omega), fun b hb hne => by (try simp only [hN] at hb hne); simp (disch := first | omega | (simp only [hN] <;> omega) | fail) only [go_sem, simprocAttr, bo]⟩
    by_cases e26 : op = 26
    · subst e26
      simp (disch := first | omega | (simp only [hN] <;> omega) | fail) only [go_sem, simprocAttr, d2, cdC, insC, b0, b1, b2, eq5, f1.1, f1.2, f2.1, f2.2, f3.1, f3.2, f4.1, f4.2]
      have hz : insB c ⟨26, a, b, bits, pos⟩ = (a == 0 && b == 0 && bits == 0) := by simp [insB]
      rw [hz] at hQ
      exact hQ _ ⟨by first | omega | (simp only [hN]; omega), fun b hb hne => by (try simp only [hN] at hb hne); simp (disch := first | omega | (simp only [hN] <;> omega) | fail) only [go_sem, simprocAttr, bo]⟩
    have g1 : (op == 1) = false := by simp [e1]
    have g2 : (op == 2) = false := by simp [e2]
    have g3 : (op == 3) = false := by simp [e3]
    have g4 : (op == 4) = false := by simp [e4]
    have g5 : (op == 5) = false := by simp [e5]
    have g6 : (op == 6) = false := by simp [e6]
    have g7 : (op == 7) = false := by simp [e7]
    have g8 : (op == 8) = false := by simp [e8]
    have g9 : (op == 9) = false := by simp [e9]
    have g10 : (op == 10) = false := by simp [e10]
    have g11 : (op == 11) = false := by simp [e11]
    have g12 : (op == 12) = false := by simp [e12]
    have g13 : (op == 13) = false := by simp [e13]
    have g14 : (op == 14) = false := by simp [e14]
    have g15 : (op == 15) = false := by simp [e15]
    have g16 : (op == 16) = false := by simp [e16]
    have g17 : (op == 17) = false := by simp [e17]
    have g18 : (op == 18) = false := by simp [e18]
    have g19 : (op == 19) = false := by simp [e19]
    have g20 : (op == 20) = false := by simp [e20]
    have g21 : (op == 21) = false := by simp [e21]
    have g22 : (op == 22) = false := by simp [e22]
    have g23 : (op == 23) = false := by simp [e23]
    have g24 : (op == 24) = false := by simp [e24]
    have g25 : (op == 25) = false := by simp [e25]
    have g26 : (op == 26) = false := by simp [e26]
    simp (disch := first | omega | (simp only [hN] <;> omega) | fail) only [go_sem, simprocAttr, d2, cdC, insC, b0, b1, b2, eq5, f1.1, f1.2, f2.1, f2.2, f3.1, f3.2, f4.1, f4.2, g1, g2, g3, g4, g5, g6, g7, g8, g9, g10, g11, g12, g13, g14, g15, g16, g17, g18, g19, g20, g21, g22, g23, g24, g25, g26]
    have hz : insB c ⟨op, a, b, bits, pos⟩ = false := by simp [insB, e1, e2, e3, e4, e5, e6, e7, e8, e9, e10, e11, e12, e13, e14, e15, e16, e17, e18, e19, e20, e21, e22, e23, e24, e25, e26]
    rw [hz] at hQ
    exact hQ _ ⟨by first | omega | (simp only [hN]; omega), fun b hb hne => by (try simp only [hN] at hb hne); simp (disch := first | omega | (simp only [hN] <;> omega) | fail) only [go_sem, simprocAttr, bo]⟩
end Go.Ev
/- Proofread: a code's form. -/
namespace Go.Ev
open Go
set_option maxRecDepth 100000
set_option maxHeartbeats 4000000

theorem shape_spec {h : AHeap} {c : Cd} {pv chv fv bv : AV} (hC : CdV h c pv chv fv bv) {Q : QR} (hQ : ∀ h', Fr h.n h h' → Q (.ret (.bool (shapeB c))) h') : WF F 23 [.agg (cdC c pv chv fv bv)] h Q := by
  refine WF.code F23 rfl ?_
  obtain ⟨f1, f2, f3, f4⟩ := hC.flats
  obtain ⟨l1, l2, l3, l4⟩ := hC.lens
  obtain ⟨s1, s2, s3, s4⟩ := hC.smalls
  simp (disch := first | omega | (simp only [hN] <;> omega) | fail) only [go_sem, simprocAttr, cdC, f1.1, f1.2, f2.1, f2.2, f3.1, f3.2, f4.1, f4.2]
  have hF0 : Fr h.n h (h.alloc (.cells .own 0 (cdC c pv chv fv bv))) := (Fr.refl _ _).alloc _
  simp only [cdC] at hF0
  generalize hHH : AHeap.alloc h _ = H at hF0 ⊢
  have hHn : H.n = h.n + 1 := by rw [← hHH]; simp (disch := first | omega | (simp only [hN] <;> omega) | fail) only [go_sem, simprocAttr]
  have b0 : H.get h.n = some ⟨0, .cells .own 0 (cdC c pv chv fv bv)⟩ := by rw [← hHH]; simp (disch := first | omega | (simp only [hN] <;> omega) | fail) only [go_sem, simprocAttr, cdC]
  simp only [cdC] at b0
  clear hHH
  replace hC := hC.fr hF0
  simp (disch := first | omega | (simp only [hN] <;> omega) | fail) only [go_sem, simprocAttr, b0, l1]
  by_cases p1 : c.places.length ≤ 128
  · have g : decide ((c.places.length : Int) > 128) = false := decide_eq_false (by omega)
    simp (disch := first | omega | (simp only [hN] <;> omega) | fail) only [go_sem, simprocAttr, g, b0, l1]
    refine within_spec ?_
    cases p2 : inside c.mutexes 0 32
    · have hz : shapeB c = false := by simp [shapeB, headOk, p2]
      rw [hz] at hQ
      simp (disch := first | omega | (simp only [hN] <;> omega) | fail) only [go_sem, simprocAttr, b0]
      exact hQ _ hF0
    simp (disch := first | omega | (simp only [hN] <;> omega) | fail) only [go_sem, simprocAttr, b0]
    refine within_spec ?_
    cases p3 : inside c.atomics 0 32
    · have hz : shapeB c = false := by simp [shapeB, headOk, p3]
      rw [hz] at hQ
      simp (disch := first | omega | (simp only [hN] <;> omega) | fail) only [go_sem, simprocAttr, b0]
      exact hQ _ hF0
    have q2 : 0 ≤ c.mutexes ∧ c.mutexes ≤ 32 := by simpa [inside] using p2
    have q3 : 0 ≤ c.atomics ∧ c.atomics ≤ 32 := by simpa [inside] using p3
    simp (disch := first | omega | (simp only [hN] <;> omega) | fail) only [go_sem, simprocAttr, b0, l2]
    by_cases p4 : c.mutexes + c.atomics + (c.chans.length : Int) ≤ 32
    · have g : decide (c.mutexes + c.atomics + (c.chans.length : Int) > 32) = false := decide_eq_false (by omega)
      simp (disch := first | omega | (simp only [hN] <;> omega) | fail) only [go_sem, simprocAttr, g, b0, l3]
      by_cases p5 : (c.funcs.length : Int) ≤ 16
      · have g : decide ((c.funcs.length : Int) > 16) = false := decide_eq_false (by omega)
        simp (disch := first | omega | (simp only [hN] <;> omega) | fail) only [go_sem, simprocAttr, g, b0, l4]
        by_cases p6 : (c.body.length : Int) ≤ 8192
        · have g : decide ((c.body.length : Int) > 8192) = false := decide_eq_false (by omega)
          simp (disch := first | omega | (simp only [hN] <;> omega) | fail) only [go_sem, simprocAttr, g, b0, l3]
          refine within_spec ?_
          cases p7 : inside c.main 0 ((c.funcs.length : Int) - 1)
          · have hz : shapeB c = false := by simp [shapeB, headOk, p7]
            rw [hz] at hQ
            simp (disch := first | omega | (simp only [hN] <;> omega) | fail) only [go_sem, simprocAttr, b0]
            exact hQ _ hF0
          have q7 : 0 ≤ c.main ∧ c.main ≤ (c.funcs.length : Int) - 1 := by simpa [inside] using p7
          obtain ⟨m, hm⟩ := Int.eq_ofNat_of_zero_le q7.1
          have hml : m < c.funcs.length := by omega
          obtain ⟨css, hE, hfs⟩ := hC.funcs
          obtain ⟨b', o, cp, ex, ver', md, bs, rfl, hb, hg, hrw⟩ := hfs.inv (by omega)
          obtain ⟨lv', hrow, hlv⟩ := hE.at hml
          have hpar : bs[o + m * 3 + 1]? = some (.int .i64 c.funcs[m].params) := by
            rw [Nat.add_assoc, row_get hrw (by omega)]
            have h1 := row_get hrow (i := 1) (by decide)
            rw [h1]; rfl
          have hfm : c.funcs.getD c.main.toNat ⟨0, 0, []⟩ = c.funcs[m] := by rw [hm, Int.toNat_natCast]; simp [List.getD, hml]
          have im : ((m : Int) < (c.funcs.length : Int)) = True := by simp [hml]
          simp (disch := first | omega | (simp only [hN] <;> omega) | fail) only [go_sem, simprocAttr, b0, hm, l3, hg, hpar, im, Int.toNat_natCast]
          by_cases p8 : c.funcs[m].params = 0
          · have hhead : headOk c = true := by
              unfold headOk
              rw [p2, p3, p7, hfm, p8]
              simp [p4, p5, p6]
              omega
            have g8 : (c.funcs[m].params == 0) = true := by simp [p8]
            simp (disch := first | omega | (simp only [hN] <;> omega) | fail) only [go_sem, simprocAttr, g8, b0, l2, bne, Bool.not_true]
            clear g8 hfm hpar hrow hlv p2 p3 p7 q7 g im p1 p4
            refine wp_loopx 0 (fun n a h' => ∃ i : Nat, n = c.chans.length - i ∧ i ≤ c.chans.length ∧ Fr H.n H h' ∧ (c.chans.take i).all (fun x => typB x.1 && inside x.2 0 8) = true ∧ a.tm.get 1 = some (.ptr h.n 0) ∧ a.tm.get 69 = some chv ∧ a.tm.get 70 = some (.int .i64 (c.chans.length : Int)) ∧ a.tm.get 71 = some (.int .i64 (i : Int)) ∧ a.df = [])
              (fun a h' => Fr H.n H h' ∧ c.chans.all (fun x => typB x.1 && inside x.2 0 8) = true ∧ a.tm.get 1 = some (.ptr h.n 0) ∧ a.df = []) ?_ ?_ c.chans.length ?_
            · rintro n ⟨t, df⟩ h2 ⟨i, hn, hi, hf, ht, k1, k69, k70, k71, hdf⟩
              simp only at k1 k69 k70 k71 hdf
              subst hdf
              have hn2 := hf.n; try simp only [hN] at hn2
              by_cases hil : i < c.chans.length
              · obtain ⟨b2, o2, cp2, ex2, ver2, md2, bs2, rfl, hb2, hg2, hrw2⟩ := hC.chans.inv (by omega)
                have hrow : row bs2 (o2 + i * 2) 2 = some (chC c.chans[i]) := by
                  rw [row_sub hrw2 (by omega)]
                  exact flat_row (f := chC) (fun _ => rfl) (List.getElem?_eq_getElem hil)
                have hg3 := (hf.all hb2).trans hg2
                have i1 : ((i : Int) < (c.chans.length : Int)) = True := by simp [hil]
                have i2 : decide ((i : Int) < (c.chans.length : Int)) = true := decide_eq_true (by omega)
                have iN : ((i : Int) + 1) = ((i + 1 : Nat) : Int) := by omega
                have bad : (typB c.chans[i].1 && inside c.chans[i].2 0 8) = false → shapeB c = false := by
                  intro e
                  have : c.chans.all (fun x => typB x.1 && inside x.2 0 8) = false := by
                    rw [List.all_eq_false]
                    exact ⟨_, List.getElem_mem hil, by simp only [e]; decide⟩
                  simp [shapeB, this]
                have good : (typB c.chans[i].1 && inside c.chans[i].2 0 8) = true → (c.chans.take (i + 1)).all (fun x => typB x.1 && inside x.2 0 8) = true := by
                  intro e
                  rw [List.take_add_one, List.getElem?_eq_getElem hil, List.all_append, ht]
                  simp only [Option.toList_some, List.all_cons, e, List.all_nil, Bool.and_true]
                generalize c.chans[i] = x at *
                simp only [chC] at hrow
                simp (disch := first | omega | (simp only [hN] <;> omega) | fail) only [go_sem, simprocAttr, k1, k69, k70, k71, i1, i2, hg3, hrow, Int.toNat_natCast]
                refine typ_spec ?_
                cases t1 : typB x.1
                · rw [bad (by rw [t1]; rfl)] at hQ
                  simp (disch := first | omega | (simp only [hN] <;> omega) | fail) only [go_sem, simprocAttr, k1, k69, k70, k71]
                  exact hQ _ (hF0.trans ⟨by first | omega | (simp only [hN]; omega), fun b hb hne => by (try simp only [hN] at hb hne); simp (disch := first | omega | (simp only [hN] <;> omega) | fail) only [go_sem, simprocAttr, hf.old]⟩)
                · simp (disch := first | omega | (simp only [hN] <;> omega) | fail) only [go_sem, simprocAttr, k1, k69, k70, k71]
                  refine within_spec ?_
                  cases t2 : inside x.2 0 8
                  · rw [bad (by rw [t1, t2]; rfl)] at hQ
                    simp (disch := first | omega | (simp only [hN] <;> omega) | fail) only [go_sem, simprocAttr, k1, k69, k70, k71]
                    exact hQ _ (hF0.trans ⟨by first | omega | (simp only [hN]; omega), fun b hb hne => by (try simp only [hN] at hb hne); simp (disch := first | omega | (simp only [hN] <;> omega) | fail) only [go_sem, simprocAttr, hf.old]⟩)
                  · simp (disch := first | omega | (simp only [hN] <;> omega) | fail) only [go_sem, simprocAttr, k1, k69, k70, k71, iN]
                    refine ⟨c.chans.length - (i + 1), by omega, i + 1, rfl, hil, ?_, good (by rw [t1, t2]; rfl), ?_⟩
                    · exact ⟨by first | omega | (simp only [hN]; omega), fun b hb hne => by (try simp only [hN] at hb hne); simp (disch := first | omega | (simp only [hN] <;> omega) | fail) only [go_sem, simprocAttr, hf.old]⟩
                    · simp (disch := first | omega | (simp only [hN] <;> omega) | fail) only [go_sem, simprocAttr]
              · have i2 : decide ((i : Int) < (c.chans.length : Int)) = false := decide_eq_false (by omega)
                simp (disch := first | omega | (simp only [hN] <;> omega) | fail) only [go_sem, simprocAttr, k1, k69, k70, k71, i2]
                refine ⟨hf, ?_⟩
                rwa [List.take_of_length_le (by omega)] at ht
            · rintro ⟨t, df⟩ h2 ⟨hf, hch, k1, hdf⟩
              simp only at k1 hdf
              subst hdf
              have hn2 := hf.n; try simp only [hN] at hn2
              have c0 := (hf.all (b := h.n) (by omega)).trans b0
              simp (disch := first | omega | (simp only [hN] <;> omega) | fail) only [go_sem, simprocAttr, k1, c0, l3]
              refine wp_loopx 2 (fun n a h' => ∃ (i : Nat) (last : Int), n = c.funcs.length - i ∧ i ≤ c.funcs.length ∧ Fr H.n H h' ∧ ensOk c.body.length last (decide (i = 0)) (c.funcs.drop i) = ensOk c.body.length (-1) true c.funcs ∧ a.tm.get 1 = some (.ptr h.n 0) ∧ a.tm.get 5 = some (.int .i64 last) ∧ a.tm.get 87 = some (.slice b' o c.funcs.length cp ex) ∧ a.tm.get 88 = some (.int .i64 (c.funcs.length : Int)) ∧ a.tm.get 89 = some (.int .i64 (i : Int)) ∧ a.df = [])
                (fun a h' => Fr H.n H h' ∧ ensOk c.body.length (-1) true c.funcs = true ∧ a.tm.get 1 = some (.ptr h.n 0) ∧ a.df = []) ?_ ?_ c.funcs.length ?_
              · clear k1 c0 hf hn2
                rintro n ⟨t, df⟩ h2 ⟨i, last, hn, hi, hf, he, k1, k5, k87, k88, k89, hdf⟩
                simp only at k1 k5 k87 k88 k89 hdf
                subst hdf
                have hn2 := hf.n; try simp only [hN] at hn2
                have c0 := (hf.all (b := h.n) (by omega)).trans b0
                by_cases hil : i < c.funcs.length
                · obtain ⟨lv, hrow, hlv⟩ := hE.at hil
                  rw [← row_sub hrw (by omega)] at hrow
                  have hg3 := (hf.all hb).trans hg
                  have i1 : ((i : Int) < (c.funcs.length : Int)) = True := by simp [hil]
                  have i2 : decide ((i : Int) < (c.funcs.length : Int)) = true := decide_eq_true (by omega)
                  have iN : ((i : Int) + 1) = ((i + 1 : Nat) : Int) := by omega
                  rw [List.drop_eq_getElem_cons hil] at he
                  generalize c.funcs[i] = f at *
                  rw [ensOk] at he
                  have bad : enOk (c.body.length : Int) last (decide (i = 0)) f = false → shapeB c = false := by
                    intro e
                    rw [e, Bool.false_and] at he
                    simp [shapeB, ← he]
                  have hlvf := hlv.1.flat
                  have hlvl := hlv.1.len
                  have hmin : mxA false (.int .i64 4) [.int .i64 (f.locals.length : Int)] = some (.int .i64 (min 4 (f.locals.length : Int))) := by
                    simp only [mxA, cond_false]
                    by_cases e : (f.locals.length : Int) < 4
                    · rw [decide_eq_true e, cond_true, Int.min_eq_right (by omega)]
                    · rw [decide_eq_false e, cond_false, Int.min_eq_left (by omega)]
                  simp only [enC] at hrow
                  simp (disch := first | omega | (simp only [hN] <;> omega) | fail) only [go_sem, simprocAttr, k1, k5, k87, k88, k89, i1, i2, hg3, hrow, Int.toNat_natCast, hlvf.1, hlvf.2]
                  by_cases a1 : last < f.start
                  · have g1 : decide (f.start ≤ last) = false := decide_eq_false (by omega)
                    by_cases a2 : i = 0
                    · have g2 : ((i : Int) == 0) = true := by simp [a2]
                      by_cases a2b : f.start = 0
                      · have g2b : (f.start == 0) = true := by simp [a2b]
                        simp (disch := first | omega | (simp only [hN] <;> omega) | fail) only [go_sem, simprocAttr, k1, k5, k87, k88, k89, g1, g2, g2b, bne, Bool.not_true, c0, l4]
                        by_cases a3 : f.start < (c.body.length : Int)
                        · have g3 : decide (f.start ≥ (c.body.length : Int)) = false := decide_eq_false (by omega)
                          simp (disch := first | omega | (simp only [hN] <;> omega) | fail) only [go_sem, simprocAttr, k1, k5, k87, k88, k89, c0, l4, g3, hlvl, hmin]
                          refine within_spec ?_
                          cases a4 : inside f.params 0 (min 4 (f.locals.length : Int))
                          · rw [bad (by simp [enOk, a4])] at hQ
                            simp (disch := first | omega | (simp only [hN] <;> omega) | fail) only [go_sem, simprocAttr, k1, k5, k87, k88, k89]
                            exact hQ _ (hF0.trans ⟨by first | omega | (simp only [hN]; omega), fun b hb hne => by (try simp only [hN] at hb hne); simp (disch := first | omega | (simp only [hN] <;> omega) | fail) only [go_sem, simprocAttr, hf.old]⟩)
                          · simp (disch := first | omega | (simp only [hN] <;> omega) | fail) only [go_sem, simprocAttr, k1, k5, k87, k88, k89, hlvl]
                            by_cases a5 : (f.locals.length : Int) ≤ 32
                            · have g5 : decide ((f.locals.length : Int) > 32) = false := decide_eq_false (by omega)
                              simp (disch := first | omega | (simp only [hN] <;> omega) | fail) only [go_sem, simprocAttr, k1, k5, k87, k88, k89, g5, hlvf.1, hlvf.2]
                              refine all_spec (p := typB) (hlv.1.fr ⟨by first | omega | (simp only [hN]; omega), fun b hb hne => by (try simp only [hN] at hb hne); simp (disch := first | omega | (simp only [hN] <;> omega) | fail) only [go_sem, simprocAttr, hf.old]⟩) (fun h' _ => typ_call) ?_
                              intro h3 hf3
                              have hn3 := hf3.n; try simp only [hN] at hn3
                              cases a6 : f.locals.all typB
                              · rw [bad (by simp only [enOk, a6, Bool.and_false])] at hQ
                                simp (disch := first | omega | (simp only [hN] <;> omega) | fail) only [go_sem, simprocAttr, k1, k5, k87, k88, k89]
                                exact hQ _ (hF0.trans ⟨by first | omega | (simp only [hN]; omega), fun b hb hne => by (try simp only [hN] at hb hne); simp (disch := first | omega | (simp only [hN] <;> omega) | fail) only [go_sem, simprocAttr, hf3.old, hf.old]⟩)
                              · have m7 : h3.get h2.n = some ⟨1, .cells .own 0 (enC f lv)⟩ := by simp (disch := first | omega | (simp only [hN] <;> omega) | fail) only [go_sem, simprocAttr, hf3.old, enC]
                                simp only [enC] at m7
                                simp (disch := first | omega | (simp only [hN] <;> omega) | fail) only [go_sem, simprocAttr, k1, k5, k87, k88, k89, m7, iN]
                                refine ⟨c.funcs.length - (i + 1), by omega, i + 1, f.start, rfl, hil, ?_, ?_, ?_⟩
                                · exact ⟨by first | omega | (simp only [hN]; omega), fun b hb hne => by (try simp only [hN] at hb hne); simp (disch := first | omega | (simp only [hN] <;> omega) | fail) only [go_sem, simprocAttr, hf3.old, hf.old]⟩
                                · rw [← he]
                                  have e1 : enOk (c.body.length : Int) last (decide (i = 0)) f = true := by simp only [enOk, decide_eq_true a1, decide_eq_true a3, a4, decide_eq_true a5, a6, g2b, Bool.or_true, Bool.and_true]
                                  rw [e1, decide_eq_false (by omega), Bool.true_and]
                                · simp (disch := first | omega | (simp only [hN] <;> omega) | fail) only [go_sem, simprocAttr]
                            · have g5 : decide ((f.locals.length : Int) > 32) = true := decide_eq_true (by omega)
                              rw [bad (by simp [enOk, a5])] at hQ
                              simp (disch := first | omega | (simp only [hN] <;> omega) | fail) only [go_sem, simprocAttr, k1, k5, k87, k88, k89, g5]
                              exact hQ _ (hF0.trans ⟨by first | omega | (simp only [hN]; omega), fun b hb hne => by (try simp only [hN] at hb hne); simp (disch := first | omega | (simp only [hN] <;> omega) | fail) only [go_sem, simprocAttr, hf.old]⟩)
                        · have g3 : decide (f.start ≥ (c.body.length : Int)) = true := decide_eq_true (by omega)
                          rw [bad (by simp [enOk, a3])] at hQ
                          simp (disch := first | omega | (simp only [hN] <;> omega) | fail) only [go_sem, simprocAttr, k1, k5, k87, k88, k89, c0, l4, g3]
                          exact hQ _ (hF0.trans ⟨by first | omega | (simp only [hN]; omega), fun b hb hne => by (try simp only [hN] at hb hne); simp (disch := first | omega | (simp only [hN] <;> omega) | fail) only [go_sem, simprocAttr, hf.old]⟩)
                      · have g2b : (f.start == 0) = false := by simp [a2b]
                        rw [bad (by simp [enOk, a2, a2b])] at hQ
                        simp (disch := first | omega | (simp only [hN] <;> omega) | fail) only [go_sem, simprocAttr, k1, k5, k87, k88, k89, g1, g2, g2b, bne, Bool.not_false]
                        exact hQ _ (hF0.trans ⟨by first | omega | (simp only [hN]; omega), fun b hb hne => by (try simp only [hN] at hb hne); simp (disch := first | omega | (simp only [hN] <;> omega) | fail) only [go_sem, simprocAttr, hf.old]⟩)
                    · have g2 : ((i : Int) == 0) = false := by simp [a2]
                      simp (disch := first | omega | (simp only [hN] <;> omega) | fail) only [go_sem, simprocAttr, k1, k5, k87, k88, k89, g1, g2, c0, l4]
                      by_cases a3 : f.start < (c.body.length : Int)
                      · have g3 : decide (f.start ≥ (c.body.length : Int)) = false := decide_eq_false (by omega)
                        simp (disch := first | omega | (simp only [hN] <;> omega) | fail) only [go_sem, simprocAttr, k1, k5, k87, k88, k89, c0, l4, g3, hlvl, hmin]
                        refine within_spec ?_
                        cases a4 : inside f.params 0 (min 4 (f.locals.length : Int))
                        · rw [bad (by simp [enOk, a4])] at hQ
                          simp (disch := first | omega | (simp only [hN] <;> omega) | fail) only [go_sem, simprocAttr, k1, k5, k87, k88, k89]
                          exact hQ _ (hF0.trans ⟨by first | omega | (simp only [hN]; omega), fun b hb hne => by (try simp only [hN] at hb hne); simp (disch := first | omega | (simp only [hN] <;> omega) | fail) only [go_sem, simprocAttr, hf.old]⟩)
                        · simp (disch := first | omega | (simp only [hN] <;> omega) | fail) only [go_sem, simprocAttr, k1, k5, k87, k88, k89, hlvl]
                          by_cases a5 : (f.locals.length : Int) ≤ 32
                          · have g5 : decide ((f.locals.length : Int) > 32) = false := decide_eq_false (by omega)
                            simp (disch := first | omega | (simp only [hN] <;> omega) | fail) only [go_sem, simprocAttr, k1, k5, k87, k88, k89, g5, hlvf.1, hlvf.2]
                            refine all_spec (p := typB) (hlv.1.fr ⟨by first | omega | (simp only [hN]; omega), fun b hb hne => by (try simp only [hN] at hb hne); simp (disch := first | omega | (simp only [hN] <;> omega) | fail) only [go_sem, simprocAttr, hf.old]⟩) (fun h' _ => typ_call) ?_
                            intro h3 hf3
                            have hn3 := hf3.n; try simp only [hN] at hn3
                            cases a6 : f.locals.all typB
                            · rw [bad (by simp only [enOk, a6, Bool.and_false])] at hQ
                              simp (disch := first | omega | (simp only [hN] <;> omega) | fail) only [go_sem, simprocAttr, k1, k5, k87, k88, k89]
                              exact hQ _ (hF0.trans ⟨by first | omega | (simp only [hN]; omega), fun b hb hne => by (try simp only [hN] at hb hne); simp (disch := first | omega | (simp only [hN] <;> omega) | fail) only [go_sem, simprocAttr, hf3.old, hf.old]⟩)
                            · have m7 : h3.get h2.n = some ⟨1, .cells .own 0 (enC f lv)⟩ := by simp (disch := first | omega | (simp only [hN] <;> omega) | fail) only [go_sem, simprocAttr, hf3.old, enC]
                              simp only [enC] at m7
                              simp (disch := first | omega | (simp only [hN] <;> omega) | fail) only [go_sem, simprocAttr, k1, k5, k87, k88, k89, m7, iN]
                              refine ⟨c.funcs.length - (i + 1), by omega, i + 1, f.start, rfl, hil, ?_, ?_, ?_⟩
                              · exact ⟨by first | omega | (simp only [hN]; omega), fun b hb hne => by (try simp only [hN] at hb hne); simp (disch := first | omega | (simp only [hN] <;> omega) | fail) only [go_sem, simprocAttr, hf3.old, hf.old]⟩
                              · rw [← he]
                                have e1 : enOk (c.body.length : Int) last (decide (i = 0)) f = true := by simp only [enOk, decide_eq_true a1, decide_eq_true a3, a4, decide_eq_true a5, a6, decide_eq_false a2, Bool.not_false, Bool.true_or, Bool.and_true]
                                rw [e1, decide_eq_false (by omega), Bool.true_and]
                              · simp (disch := first | omega | (simp only [hN] <;> omega) | fail) only [go_sem, simprocAttr]
                          · have g5 : decide ((f.locals.length : Int) > 32) = true := decide_eq_true (by omega)
                            rw [bad (by simp [enOk, a5])] at hQ
                            simp (disch := first | omega | (simp only [hN] <;> omega) | fail) only [go_sem, simprocAttr, k1, k5, k87, k88, k89, g5]
                            exact hQ _ (hF0.trans ⟨by first | omega | (simp only [hN]; omega), fun b hb hne => by (try simp only [hN] at hb hne); simp (disch := first | omega | (simp only [hN] <;> omega) | fail) only [go_sem, simprocAttr, hf.old]⟩)
                      · have g3 : decide (f.start ≥ (c.body.length : Int)) = true := decide_eq_true (by omega)
                        rw [bad (by simp [enOk, a3])] at hQ
                        simp (disch := first | omega | (simp only [hN] <;> omega) | fail) only [go_sem, simprocAttr, k1, k5, k87, k88, k89, c0, l4, g3]
                        exact hQ _ (hF0.trans ⟨by first | omega | (simp only [hN]; omega), fun b hb hne => by (try simp only [hN] at hb hne); simp (disch := first | omega | (simp only [hN] <;> omega) | fail) only [go_sem, simprocAttr, hf.old]⟩)
                  · have g1 : decide (f.start ≤ last) = true := decide_eq_true (by omega)
                    rw [bad (by simp [enOk, a1])] at hQ
                    simp (disch := first | omega | (simp only [hN] <;> omega) | fail) only [go_sem, simprocAttr, k1, k5, k87, k88, k89, g1]
                    exact hQ _ (hF0.trans ⟨by first | omega | (simp only [hN]; omega), fun b hb hne => by (try simp only [hN] at hb hne); simp (disch := first | omega | (simp only [hN] <;> omega) | fail) only [go_sem, simprocAttr, hf.old]⟩)
                · have i2 : decide ((i : Int) < (c.funcs.length : Int)) = false := decide_eq_false (by omega)
                  simp (disch := first | omega | (simp only [hN] <;> omega) | fail) only [go_sem, simprocAttr, k1, k5, k87, k88, k89, i2]
                  refine ⟨hf, ?_⟩
                  rw [← he, List.drop_of_length_le (by omega)]
                  rfl
              · clear k1 c0 hf hn2
                rintro ⟨t, df⟩ h2 ⟨hf, hen, k1, hdf⟩
                simp only at k1 hdf
                subst hdf
                have hn2 := hf.n; try simp only [hN] at hn2
                have c0 := (hf.all (b := h.n) (by omega)).trans b0
                simp (disch := first | omega | (simp only [hN] <;> omega) | fail) only [go_sem, simprocAttr, k1, c0, f1.1, f1.2]
                refine all_spec (p := typB) (hC.places.1.fr hf) (fun h' _ => typ_call) ?_
                intro h3 hf3
                have hn3 := hf3.n; try simp only [hN] at hn3
                have hz : shapeB c = c.places.all typB := by simp [shapeB, hhead, hch, hen]
                rw [hz] at hQ
                simp (disch := first | omega | (simp only [hN] <;> omega) | fail) only [go_sem, simprocAttr]
                exact hQ _ (hF0.trans ⟨by first | omega | (simp only [hN]; omega), fun b hb hne => by (try simp only [hN] at hb hne); simp (disch := first | omega | (simp only [hN] <;> omega) | fail) only [go_sem, simprocAttr, hf3.old, hf.old]⟩)
              · simp (disch := first | omega | (simp only [hN] <;> omega) | fail) only [go_sem, simprocAttr]
                exact ⟨0, -1, rfl, Nat.zero_le _, hf, rfl, by simp (disch := first | omega | (simp only [hN] <;> omega) | fail) only [go_sem, simprocAttr, k1]⟩
            · simp (disch := first | omega | (simp only [hN] <;> omega) | fail) only [go_sem, simprocAttr, l2]
              exact ⟨0, rfl, Nat.zero_le _, Fr.refl _ _, by simp, by simp (disch := first | omega | (simp only [hN] <;> omega) | fail) only [go_sem, simprocAttr]⟩
          · have g8 : (c.funcs[m].params == 0) = false := by simp [p8]
            have hz : shapeB c = false := by
              have : headOk c = false := by unfold headOk; rw [hfm, g8]; simp
              simp [shapeB, this]
            rw [hz] at hQ
            simp (disch := first | omega | (simp only [hN] <;> omega) | fail) only [go_sem, simprocAttr, g8, bne, Bool.not_false]
            exact hQ _ hF0
        · have g : decide ((c.body.length : Int) > 8192) = true := decide_eq_true (by omega)
          have hn : ¬ ((c.body.length : Int) ≤ 8192) := by omega
          have hz : shapeB c = false := by simp [shapeB, headOk, hn]
          rw [hz] at hQ
          simp (disch := first | omega | (simp only [hN] <;> omega) | fail) only [go_sem, simprocAttr, g]
          exact hQ _ hF0
      · have g : decide ((c.funcs.length : Int) > 16) = true := decide_eq_true (by omega)
        have hn : ¬ ((c.funcs.length : Int) ≤ 16) := by omega
        have hz : shapeB c = false := by simp [shapeB, headOk, hn]
        rw [hz] at hQ
        simp (disch := first | omega | (simp only [hN] <;> omega) | fail) only [go_sem, simprocAttr, g]
        exact hQ _ hF0
    · have g : decide (c.mutexes + c.atomics + (c.chans.length : Int) > 32) = true := decide_eq_true (by omega)
      have hn : ¬ (c.mutexes + c.atomics + (c.chans.length : Int) ≤ 32) := by omega
      have hz : shapeB c = false := by simp [shapeB, headOk, hn]
      rw [hz] at hQ
      simp (disch := first | omega | (simp only [hN] <;> omega) | fail) only [go_sem, simprocAttr, g]
      exact hQ _ hF0
  · have g : decide ((c.places.length : Int) > 128) = true := decide_eq_true (by omega)
    have hn : ¬ ((c.places.length : Int) ≤ 128) := by omega
    have hz : shapeB c = false := by simp [shapeB, headOk, hn]
    rw [hz] at hQ
    simp (disch := first | omega | (simp only [hN] <;> omega) | fail) only [go_sem, simprocAttr, g]
    exact hQ _ hF0
end Go.Ev
