/- The statement on groups. -/
import Derived.Test.YtccenddkgeglmaaDoorRK27
set_option linter.all false
set_option linter.unusedVariables false
set_option linter.unusedSimpArgs false
namespace Go.Ev
open Go
set_option maxRecDepth 100000
set_option maxHeartbeats 4000000

theorem wr_u64_nn (p : Int) : 0 ≤ wr .u64 p := by
  unfold wr
  cases hf : fits .u64 p with
  | true => simp [fits] at hf; exact hf.1
  | false =>
    show 0 ≤ IntKind.wrap .u64 p
    simp only [IntKind.wrap]
    have : IntKind.signed .u64 = false := rfl
    rw [this]
    simp only [Bool.false_and, Bool.false_eq_true, if_false]
    exact Int.emod_nonneg _ (by decide)
theorem wrap13 (p : Int) : ∃ i : Nat, i < 13 ∧ wr .i64 ((wr .u64 p).tmod 13) = (i : Int) := by
  have h := wr_u64_nn p
  generalize wr .u64 p = m at h
  rw [Int.tmod_eq_emod_of_nonneg h]
  have h1 := Int.emod_nonneg m (b := 13) (by decide)
  have h2 := Int.emod_lt_of_pos m (b := 13) (by decide)
  refine ⟨(m % 13).toNat, by omega, ?_⟩
  rw [wr_i64 (by omega) (by omega)]
  omega
def opsC : List AV := [.str [124, 124], .str [38, 38], .str [61, 61], .str [33, 61], .str [60], .str [60, 61], .str [62], .str [62, 61], .str [43], .str [45], .str [42], .str [47], .str [37]]
def ranksC : List AV := [.int .i64 1, .int .i64 2, .int .i64 3, .int .i64 3, .int .i64 3, .int .i64 3, .int .i64 3, .int .i64 3, .int .i64 4, .int .i64 4, .int .i64 5, .int .i64 5, .int .i64 5]
theorem lt13 {i : Nat} (h : i < 13) : i = 0 ∨ i = 1 ∨ i = 2 ∨ i = 3 ∨ i = 4 ∨ i = 5 ∨ i = 6 ∨ i = 7 ∨ i = 8 ∨ i = 9 ∨ i = 10 ∨ i = 11 ∨ i = 12 := by omega
theorem opsC_get {i : Nat} (h : i < 13) : opsC[i]? = some (.str (opAt i)) := by
  rcases lt13 h with rfl | rfl | rfl | rfl | rfl | rfl | rfl | rfl | rfl | rfl | rfl | rfl | rfl <;> rfl
theorem ranksC_get {i : Nat} (h : i < 13) : ranksC[i]? = some (.int .i64 (rankAt i : Int)) := by
  rcases lt13 h with rfl | rfl | rfl | rfl | rfl | rfl | rfl | rfl | rfl | rfl | rfl | rfl | rfl <;> rfl
theorem opAt_len {i : Nat} (h : i < 13) : (opAt i).length ≤ 2 := by
  rcases lt13 h with rfl | rfl | rfl | rfl | rfl | rfl | rfl | rfl | rfl | rfl | rfl | rfl | rfl <;> decide

theorem x_cut {x : AAct → AHeap → Post → Prop} (I : AAct → AHeap → Prop) {a : AAct} {h : AHeap} {K : Post} (w : I a h) (hI : ∀ a h, I a h → x a h K) : x a h K := hI a h w
theorem groups_law {p q : Int} {h : AHeap} (hG : GH h) : WF F 8 [.int .i64 p, .int .i64 q] h (fun r _ => r = .ret (.bool true)) := by
  refine WF.code F8 rfl ?_
  simp (maxSteps := 1000000) (disch := first | omega | (simp only [AHeap.alloc_n, AHeap.upd_n, List.length_cons, List.length_nil, List.length_append] <;> omega) | fail) only [go_sem, reduceIte, Nat.reduceAdd, Nat.reduceEqDiff, Nat.reduceDiv, Nat.reduceMod, Nat.reducePow, Nat.reduceSub, Nat.reduceMul, Nat.reduceLeDiff, beq_self_eq_true, bne_self_eq_false, Int.reduceBEq, Int.reduceBNe, Int.reduceLE, Int.reduceLT, Int.reduceToNat, Int.reduceAdd, Int.reduceSub]
  refine alive06 hG ?_
  intro h1 hf1
  have hn1 := hf1.n; try simp only [AHeap.alloc_n, AHeap.upd_n] at hn1
  have hG1 := hf1.gh hG.n hG
  obtain ⟨i, hi, ei⟩ := wrap13 p
  obtain ⟨k, hk, ek⟩ := wrap13 q
  have go1 := opsC_get hi
  have go2 := opsC_get hk
  have l1 := opAt_len hi
  have l2 := opAt_len hk
  simp only [opsC] at go1 go2
  have d1 : decide (h1.n = h1.n + 1 + 1 + 1) = false := decide_eq_false (by omega)
  have d2 : decide (h1.n = h1.n + 1 + 1) = false := decide_eq_false (by omega)
  simp (maxSteps := 1000000) (disch := first | omega | (simp only [AHeap.alloc_n, AHeap.upd_n, List.length_cons, List.length_nil, List.length_append] <;> omega) | fail) only [go_sem, reduceIte, Nat.reduceAdd, Nat.reduceEqDiff, Nat.reduceDiv, Nat.reduceMod, Nat.reducePow, Nat.reduceSub, Nat.reduceMul, Nat.reduceLeDiff, beq_self_eq_true, bne_self_eq_false, Int.reduceBEq, Int.reduceBNe, Int.reduceLE, Int.reduceLT, Int.reduceToNat, Int.reduceAdd, Int.reduceSub, ei, ek, Int.toNat_natCast, Nat.mul_one, go1, go2, d1, d2]
  generalize hH : AHeap.alloc _ _ = H
  have hHn : H.n = h1.n + 4 := by rw [← hH]; simp (maxSteps := 1000000) (disch := first | omega | (simp only [AHeap.alloc_n, AHeap.upd_n, List.length_cons, List.length_nil, List.length_append] <;> omega) | fail) only [go_sem, reduceIte, Nat.reduceAdd, Nat.reduceEqDiff, Nat.reduceDiv, Nat.reduceMod, Nat.reducePow, Nat.reduceSub, Nat.reduceMul, Nat.reduceLeDiff, beq_self_eq_true, bne_self_eq_false, Int.reduceBEq, Int.reduceBNe, Int.reduceLE, Int.reduceLT, Int.reduceToNat, Int.reduceAdd, Int.reduceSub]
  have hH0 : H.get h1.n = some ⟨0, .cells .own 1 opsC⟩ := by rw [← hH]; simp (maxSteps := 1000000) (disch := first | omega | (simp only [AHeap.alloc_n, AHeap.upd_n, List.length_cons, List.length_nil, List.length_append] <;> omega) | fail) only [go_sem, reduceIte, Nat.reduceAdd, Nat.reduceEqDiff, Nat.reduceDiv, Nat.reduceMod, Nat.reducePow, Nat.reduceSub, Nat.reduceMul, Nat.reduceLeDiff, beq_self_eq_true, bne_self_eq_false, Int.reduceBEq, Int.reduceBNe, Int.reduceLE, Int.reduceLT, Int.reduceToNat, Int.reduceAdd, Int.reduceSub]; rfl
  have hHr : H.get (h1.n + 1) = some ⟨0, .cells .own 1 ranksC⟩ := by rw [← hH]; simp (maxSteps := 1000000) (disch := first | omega | (simp only [AHeap.alloc_n, AHeap.upd_n, List.length_cons, List.length_nil, List.length_append] <;> omega) | fail) only [go_sem, reduceIte, Nat.reduceAdd, Nat.reduceEqDiff, Nat.reduceDiv, Nat.reduceMod, Nat.reducePow, Nat.reduceSub, Nat.reduceMul, Nat.reduceLeDiff, beq_self_eq_true, bne_self_eq_false, Int.reduceBEq, Int.reduceBNe, Int.reduceLE, Int.reduceLT, Int.reduceToNat, Int.reduceAdd, Int.reduceSub]; rfl
  have hH2 : H.get (h1.n + 1 + 1) = some ⟨0, .cells .own 0 zN⟩ := by rw [← hH]; simp (maxSteps := 1000000) (disch := first | omega | (simp only [AHeap.alloc_n, AHeap.upd_n, List.length_cons, List.length_nil, List.length_append] <;> omega) | fail) only [go_sem, reduceIte, Nat.reduceAdd, Nat.reduceEqDiff, Nat.reduceDiv, Nat.reduceMod, Nat.reducePow, Nat.reduceSub, Nat.reduceMul, Nat.reduceLeDiff, beq_self_eq_true, bne_self_eq_false, Int.reduceBEq, Int.reduceBNe, Int.reduceLE, Int.reduceLT, Int.reduceToNat, Int.reduceAdd, Int.reduceSub]
  have hH3 : H.get (h1.n + 1 + 1 + 1) = some ⟨0, .cells .own 0 [.nilIface, .int .i64 0]⟩ := by rw [← hH]; simp (maxSteps := 1000000) (disch := first | omega | (simp only [AHeap.alloc_n, AHeap.upd_n, List.length_cons, List.length_nil, List.length_append] <;> omega) | fail) only [go_sem, reduceIte, Nat.reduceAdd, Nat.reduceEqDiff, Nat.reduceDiv, Nat.reduceMod, Nat.reducePow, Nat.reduceSub, Nat.reduceMul, Nat.reduceLeDiff, beq_self_eq_true, bne_self_eq_false, Int.reduceBEq, Int.reduceBNe, Int.reduceLE, Int.reduceLT, Int.reduceToNat, Int.reduceAdd, Int.reduceSub]
  have hHG : GH H := (show Fr h1.n h1 H from ⟨by omega, fun b hb _ => by rw [← hH]; simp (maxSteps := 1000000) (disch := first | omega | (simp only [AHeap.alloc_n, AHeap.upd_n, List.length_cons, List.length_nil, List.length_append] <;> omega) | fail) only [go_sem, reduceIte, Nat.reduceAdd, Nat.reduceEqDiff, Nat.reduceDiv, Nat.reduceMod, Nat.reducePow, Nat.reduceSub, Nat.reduceMul, Nat.reduceLeDiff, beq_self_eq_true, bne_self_eq_false, Int.reduceBEq, Int.reduceBNe, Int.reduceLE, Int.reduceLT, Int.reduceToNat, Int.reduceAdd, Int.reduceSub]⟩).gh hG1.n hG1
  clear hH go1 go2
  have go1 := opsC_get hi
  have go2 := opsC_get hk
  have gr1 := ranksC_get hi
  have gr2 := ranksC_get hk
  have hg := grp_ok hi hk
  refine expr_read (s := grpText i k) (by simp only [grpText, List.length_append, List.length_cons, List.length_nil]; omega) hHG ?_
  unfold grpOk at hg
  cases hx : exprS (grpText i k) with
  | error x =>
    obtain ⟨e, pp⟩ := x
    rw [hx] at hg
    simp only [Bool.and_eq_true, beq_iff_eq] at hg
    intro h2 hf2
    have hn2 := hf2.n; try simp only [AHeap.alloc_n, AHeap.upd_n] at hn2
    have q0 := (hf2.all (b := h1.n) (by omega)).trans hH0
    have qr := (hf2.all (b := h1.n + 1) (by omega)).trans hHr
    have q2 := (hf2.all (b := h1.n + 1 + 1) (by omega)).trans hH2
    have q3 := (hf2.all (b := h1.n + 1 + 1 + 1) (by omega)).trans hH3
    have e1 : ((rankAt i : Int) == 3) = true := by rw [hg.1]; rfl
    have e2 : ((rankAt k : Int) == 3) = true := by rw [hg.2]; rfl
    simp (maxSteps := 1000000) (disch := first | omega | (simp only [AHeap.alloc_n, AHeap.upd_n, List.length_cons, List.length_nil, List.length_append] <;> omega) | fail) only [go_sem, reduceIte, Nat.reduceAdd, Nat.reduceEqDiff, Nat.reduceDiv, Nat.reduceMod, Nat.reducePow, Nat.reduceSub, Nat.reduceMul, Nat.reduceLeDiff, beq_self_eq_true, bne_self_eq_false, Int.reduceBEq, Int.reduceBNe, Int.reduceLE, Int.reduceLT, Int.reduceToNat, Int.reduceAdd, Int.reduceSub, hH2, hH3, q0, q2, q3, qr, gr1, gr2, Nat.mul_one, e1, e2, eqT_err]
  | ok n =>
    rw [hx] at hg
    obtain ⟨kd, ps, nm, ty, nn, sz, ob, bi, kids⟩ := n
    match kids, hg with
    | [x], hg => obtain ⟨_, _, _, _, _, _, _, _, _⟩ := x; exact absurd hg (by simp)
    | x :: y :: z :: r, hg => obtain ⟨_, _, _, _, _, _, _, _, _⟩ := x; obtain ⟨_, _, _, _, _, _, _, _, _⟩ := y; exact absurd hg (by simp)
    | [x, y], hg =>
      obtain ⟨kd1, ps1, a, ty1, nn1, sz1, ob1, bi1, kids1⟩ := x
      obtain ⟨kd2, ps2, c, ty2, nn2, sz2, ob2, bi2, kids2'⟩ := y
      simp only [Bool.and_eq_true, decide_eq_true_eq] at hg
      obtain ⟨⟨hg1, rfl⟩, hg3⟩ := hg
      have e1 : ((rankAt i : Int) == 3) = (rankAt i == 3) := Bool.eq_iff_iff.2 (by simp; omega)
      have e2 : ((rankAt k : Int) == 3) = (rankAt k == 3) := Bool.eq_iff_iff.2 (by simp; omega)
      have e3 : decide ((rankAt i : Int) ≥ (rankAt k : Int)) = decide (rankAt k ≤ rankAt i) := by simp
      intro h2 kv hf2 hk2
      have hn2 := hf2.n; try simp only [AHeap.alloc_n, AHeap.upd_n] at hn2
      obtain ⟨b, ver, ex, kx, ky, rfl, hb1, hb2, hb3⟩ := kids2 hk2
      have q0 := (hf2.all (b := h1.n) (by omega)).trans hH0
      have qr := (hf2.all (b := h1.n + 1) (by omega)).trans hHr
      have q2 := (hf2.all (b := h1.n + 1 + 1) (by omega)).trans hH2
      have q3 := (hf2.all (b := h1.n + 1 + 1 + 1) (by omega)).trans hH3
      simp only [ndC, Nd.kind, Nd.pos, Nd.name, Nd.typ, Nd.n, Nd.size, Nd.obj, Nd.bits, List.cons_append, List.nil_append] at hb3 ⊢
      have c1 : decide ((1 : Int) < ((2 : Nat) : Int)) = true := by decide
      have c0 : decide ((0 : Int) < ((2 : Nat) : Int)) = true := by decide
      clear hk2 hH0 hHr hHG hG1 hf1
      generalize hX : wpC F (.seq _ _) = X
      simp (maxSteps := 1000000) (disch := first | omega | (simp only [AHeap.alloc_n, AHeap.upd_n, List.length_cons, List.length_nil, List.length_append] <;> omega) | fail) only [go_sem, reduceIte, Nat.reduceAdd, Nat.reduceEqDiff, Nat.reduceDiv, Nat.reduceMod, Nat.reducePow, Nat.reduceSub, Nat.reduceMul, Nat.reduceLeDiff, beq_self_eq_true, bne_self_eq_false, Int.reduceBEq, Int.reduceBNe, Int.reduceLE, Int.reduceLT, Int.reduceToNat, Int.reduceAdd, Int.reduceSub, hH2, hH3, q2, q3]
      refine x_cut (fun A H => A.tm.get 5 = some (.slice h1.n 0 13 13 true) ∧ A.tm.get 6 = some (.slice (h1.n + 1) 0 13 13 true) ∧ A.tm.get 7 = some (.int .i64 (i : Int)) ∧ A.tm.get 8 = some (.int .i64 (k : Int)) ∧ A.tm.get 9 = some (.ptr (h1.n + 1 + 1) 0) ∧ A.tm.get 10 = some (.ptr (h1.n + 1 + 1 + 1) 0) ∧ A.df = [] ∧ H.get h1.n = some ⟨0, .cells .own 1 opsC⟩ ∧ H.get (h1.n + 1) = some ⟨0, .cells .own 1 ranksC⟩ ∧ (∃ v, H.get (h1.n + 1 + 1) = some ⟨v, .cells .own 0 [.int .i64 31, .int .i64 ps, .str nm, .int .i64 ty, .int .i64 nn, .int .i64 sz, .int .i64 ob, .int .u64 bi, .slice b 0 2 2 ex]⟩) ∧ (∃ v, H.get (h1.n + 1 + 1 + 1) = some ⟨v, .cells .own 0 [.nilIface, .int .i64 0]⟩) ∧ (∃ v, H.get b = some ⟨v, .cells .own 9 [.int .i64 kd1, .int .i64 ps1, .str a, .int .i64 ty1, .int .i64 nn1, .int .i64 sz1, .int .i64 ob1, .int .u64 bi1, kx, .int .i64 kd2, .int .i64 ps2, .str c, .int .i64 ty2, .int .i64 nn2, .int .i64 sz2, .int .i64 ob2, .int .u64 bi2, ky]⟩)) ?_ ?_
      · have g1 : (h1.n = h1.n + 1 + 1) = False := by simp; omega
        refine ⟨by simp (maxSteps := 1000000) (disch := first | omega | (simp only [AHeap.alloc_n, AHeap.upd_n, List.length_cons, List.length_nil, List.length_append] <;> omega) | fail) only [go_sem, reduceIte, Nat.reduceAdd, Nat.reduceEqDiff, Nat.reduceDiv, Nat.reduceMod, Nat.reducePow, Nat.reduceSub, Nat.reduceMul, Nat.reduceLeDiff, beq_self_eq_true, bne_self_eq_false, Int.reduceBEq, Int.reduceBNe, Int.reduceLE, Int.reduceLT, Int.reduceToNat, Int.reduceAdd, Int.reduceSub], by simp (maxSteps := 1000000) (disch := first | omega | (simp only [AHeap.alloc_n, AHeap.upd_n, List.length_cons, List.length_nil, List.length_append] <;> omega) | fail) only [go_sem, reduceIte, Nat.reduceAdd, Nat.reduceEqDiff, Nat.reduceDiv, Nat.reduceMod, Nat.reducePow, Nat.reduceSub, Nat.reduceMul, Nat.reduceLeDiff, beq_self_eq_true, bne_self_eq_false, Int.reduceBEq, Int.reduceBNe, Int.reduceLE, Int.reduceLT, Int.reduceToNat, Int.reduceAdd, Int.reduceSub], by simp (maxSteps := 1000000) (disch := first | omega | (simp only [AHeap.alloc_n, AHeap.upd_n, List.length_cons, List.length_nil, List.length_append] <;> omega) | fail) only [go_sem, reduceIte, Nat.reduceAdd, Nat.reduceEqDiff, Nat.reduceDiv, Nat.reduceMod, Nat.reducePow, Nat.reduceSub, Nat.reduceMul, Nat.reduceLeDiff, beq_self_eq_true, bne_self_eq_false, Int.reduceBEq, Int.reduceBNe, Int.reduceLE, Int.reduceLT, Int.reduceToNat, Int.reduceAdd, Int.reduceSub], by simp (maxSteps := 1000000) (disch := first | omega | (simp only [AHeap.alloc_n, AHeap.upd_n, List.length_cons, List.length_nil, List.length_append] <;> omega) | fail) only [go_sem, reduceIte, Nat.reduceAdd, Nat.reduceEqDiff, Nat.reduceDiv, Nat.reduceMod, Nat.reducePow, Nat.reduceSub, Nat.reduceMul, Nat.reduceLeDiff, beq_self_eq_true, bne_self_eq_false, Int.reduceBEq, Int.reduceBNe, Int.reduceLE, Int.reduceLT, Int.reduceToNat, Int.reduceAdd, Int.reduceSub], by simp (maxSteps := 1000000) (disch := first | omega | (simp only [AHeap.alloc_n, AHeap.upd_n, List.length_cons, List.length_nil, List.length_append] <;> omega) | fail) only [go_sem, reduceIte, Nat.reduceAdd, Nat.reduceEqDiff, Nat.reduceDiv, Nat.reduceMod, Nat.reducePow, Nat.reduceSub, Nat.reduceMul, Nat.reduceLeDiff, beq_self_eq_true, bne_self_eq_false, Int.reduceBEq, Int.reduceBNe, Int.reduceLE, Int.reduceLT, Int.reduceToNat, Int.reduceAdd, Int.reduceSub], by simp (maxSteps := 1000000) (disch := first | omega | (simp only [AHeap.alloc_n, AHeap.upd_n, List.length_cons, List.length_nil, List.length_append] <;> omega) | fail) only [go_sem, reduceIte, Nat.reduceAdd, Nat.reduceEqDiff, Nat.reduceDiv, Nat.reduceMod, Nat.reducePow, Nat.reduceSub, Nat.reduceMul, Nat.reduceLeDiff, beq_self_eq_true, bne_self_eq_false, Int.reduceBEq, Int.reduceBNe, Int.reduceLE, Int.reduceLT, Int.reduceToNat, Int.reduceAdd, Int.reduceSub], by simp (maxSteps := 1000000) (disch := first | omega | (simp only [AHeap.alloc_n, AHeap.upd_n, List.length_cons, List.length_nil, List.length_append] <;> omega) | fail) only [go_sem, reduceIte, Nat.reduceAdd, Nat.reduceEqDiff, Nat.reduceDiv, Nat.reduceMod, Nat.reducePow, Nat.reduceSub, Nat.reduceMul, Nat.reduceLeDiff, beq_self_eq_true, bne_self_eq_false, Int.reduceBEq, Int.reduceBNe, Int.reduceLE, Int.reduceLT, Int.reduceToNat, Int.reduceAdd, Int.reduceSub], by simp (maxSteps := 1000000) (disch := first | omega | (simp only [AHeap.alloc_n, AHeap.upd_n, List.length_cons, List.length_nil, List.length_append] <;> omega) | fail) only [go_sem, reduceIte, Nat.reduceAdd, Nat.reduceEqDiff, Nat.reduceDiv, Nat.reduceMod, Nat.reducePow, Nat.reduceSub, Nat.reduceMul, Nat.reduceLeDiff, beq_self_eq_true, bne_self_eq_false, Int.reduceBEq, Int.reduceBNe, Int.reduceLE, Int.reduceLT, Int.reduceToNat, Int.reduceAdd, Int.reduceSub, q0], by simp (maxSteps := 1000000) (disch := first | omega | (simp only [AHeap.alloc_n, AHeap.upd_n, List.length_cons, List.length_nil, List.length_append] <;> omega) | fail) only [go_sem, reduceIte, Nat.reduceAdd, Nat.reduceEqDiff, Nat.reduceDiv, Nat.reduceMod, Nat.reducePow, Nat.reduceSub, Nat.reduceMul, Nat.reduceLeDiff, beq_self_eq_true, bne_self_eq_false, Int.reduceBEq, Int.reduceBNe, Int.reduceLE, Int.reduceLT, Int.reduceToNat, Int.reduceAdd, Int.reduceSub, qr], ⟨1, by simp (maxSteps := 1000000) (disch := first | omega | (simp only [AHeap.alloc_n, AHeap.upd_n, List.length_cons, List.length_nil, List.length_append] <;> omega) | fail) only [go_sem, reduceIte, Nat.reduceAdd, Nat.reduceEqDiff, Nat.reduceDiv, Nat.reduceMod, Nat.reducePow, Nat.reduceSub, Nat.reduceMul, Nat.reduceLeDiff, beq_self_eq_true, bne_self_eq_false, Int.reduceBEq, Int.reduceBNe, Int.reduceLE, Int.reduceLT, Int.reduceToNat, Int.reduceAdd, Int.reduceSub]⟩, ⟨1, by simp (maxSteps := 1000000) (disch := first | omega | (simp only [AHeap.alloc_n, AHeap.upd_n, List.length_cons, List.length_nil, List.length_append] <;> omega) | fail) only [go_sem, reduceIte, Nat.reduceAdd, Nat.reduceEqDiff, Nat.reduceDiv, Nat.reduceMod, Nat.reducePow, Nat.reduceSub, Nat.reduceMul, Nat.reduceLeDiff, beq_self_eq_true, bne_self_eq_false, Int.reduceBEq, Int.reduceBNe, Int.reduceLE, Int.reduceLT, Int.reduceToNat, Int.reduceAdd, Int.reduceSub]⟩, ⟨ver, by simp (maxSteps := 1000000) (disch := first | omega | (simp only [AHeap.alloc_n, AHeap.upd_n, List.length_cons, List.length_nil, List.length_append] <;> omega) | fail) only [go_sem, reduceIte, Nat.reduceAdd, Nat.reduceEqDiff, Nat.reduceDiv, Nat.reduceMod, Nat.reducePow, Nat.reduceSub, Nat.reduceMul, Nat.reduceLeDiff, beq_self_eq_true, bne_self_eq_false, Int.reduceBEq, Int.reduceBNe, Int.reduceLE, Int.reduceLT, Int.reduceToNat, Int.reduceAdd, Int.reduceSub, hb3]⟩⟩
      subst hX
      rintro ⟨t, df⟩ K ⟨k5, k6, k7, k8, k9, k10, hdf, w0, wr, ⟨v2, w2⟩, ⟨v3, w3⟩, ⟨vb, wb⟩⟩
      simp only at k5 k6 k7 k8 k9 k10 hdf
      subst hdf
      clear q0 qr q2 q3 hH2 hH3 hf2 hb1 hb2 hb3 hn2 hx hn1 hHn hG
      generalize h1.n = B at *
      have li := hi
      have lk := hk
      have ci : decide ((i : Int) < ((13 : Nat) : Int)) = true := decide_eq_true (by omega)
      have ck : decide ((k : Int) < ((13 : Nat) : Int)) = true := decide_eq_true (by omega)
      generalize (rankAt i == 3) = a1 at hg1 e1
      generalize (rankAt k == 3) = a2 at hg1 e2
      by_cases hle : rankAt k ≤ rankAt i
      · rw [if_pos hle] at hg3
        simp only [Bool.and_eq_true] at hg3
        obtain ⟨⟨n1, n2⟩, n3⟩ := hg3
        have dl : decide (rankAt k ≤ rankAt i) = true := decide_eq_true hle
        cases a1 <;> cases a2
        · simp (maxSteps := 1000000) (disch := first | omega | (simp only [AHeap.alloc_n, AHeap.upd_n, List.length_cons, List.length_nil, List.length_append] <;> omega) | fail) only [go_sem, reduceIte, Nat.reduceAdd, Nat.reduceEqDiff, Nat.reduceDiv, Nat.reduceMod, Nat.reducePow, Nat.reduceSub, Nat.reduceMul, Nat.reduceLeDiff, beq_self_eq_true, bne_self_eq_false, Int.reduceBEq, Int.reduceBNe, Int.reduceLE, Int.reduceLT, Int.reduceToNat, Int.reduceAdd, Int.reduceSub, k5, k6, k7, k8, k9, k10, w0, wr, w2, w3, wb, go1, go2, gr1, gr2, Nat.mul_one, Int.toNat_natCast, ci, ck, e1, e2, e3, eqT_nil, c0, c1, dl, n1, n2, n3]
        · simp (maxSteps := 1000000) (disch := first | omega | (simp only [AHeap.alloc_n, AHeap.upd_n, List.length_cons, List.length_nil, List.length_append] <;> omega) | fail) only [go_sem, reduceIte, Nat.reduceAdd, Nat.reduceEqDiff, Nat.reduceDiv, Nat.reduceMod, Nat.reducePow, Nat.reduceSub, Nat.reduceMul, Nat.reduceLeDiff, beq_self_eq_true, bne_self_eq_false, Int.reduceBEq, Int.reduceBNe, Int.reduceLE, Int.reduceLT, Int.reduceToNat, Int.reduceAdd, Int.reduceSub, k5, k6, k7, k8, k9, k10, w0, wr, w2, w3, wb, go1, go2, gr1, gr2, Nat.mul_one, Int.toNat_natCast, ci, ck, e1, e2, e3, eqT_nil, c0, c1, dl, n1, n2, n3]
        · simp (maxSteps := 1000000) (disch := first | omega | (simp only [AHeap.alloc_n, AHeap.upd_n, List.length_cons, List.length_nil, List.length_append] <;> omega) | fail) only [go_sem, reduceIte, Nat.reduceAdd, Nat.reduceEqDiff, Nat.reduceDiv, Nat.reduceMod, Nat.reducePow, Nat.reduceSub, Nat.reduceMul, Nat.reduceLeDiff, beq_self_eq_true, bne_self_eq_false, Int.reduceBEq, Int.reduceBNe, Int.reduceLE, Int.reduceLT, Int.reduceToNat, Int.reduceAdd, Int.reduceSub, k5, k6, k7, k8, k9, k10, w0, wr, w2, w3, wb, go1, go2, gr1, gr2, Nat.mul_one, Int.toNat_natCast, ci, ck, e1, e2, e3, eqT_nil, c0, c1, dl, n1, n2, n3]
        · exact absurd hg1 (by decide)
      · rw [if_neg hle] at hg3
        simp only [Bool.and_eq_true] at hg3
        obtain ⟨⟨n1, n2⟩, n3⟩ := hg3
        have dl : decide (rankAt k ≤ rankAt i) = false := decide_eq_false hle
        cases a1 <;> cases a2
        · simp (maxSteps := 1000000) (disch := first | omega | (simp only [AHeap.alloc_n, AHeap.upd_n, List.length_cons, List.length_nil, List.length_append] <;> omega) | fail) only [go_sem, reduceIte, Nat.reduceAdd, Nat.reduceEqDiff, Nat.reduceDiv, Nat.reduceMod, Nat.reducePow, Nat.reduceSub, Nat.reduceMul, Nat.reduceLeDiff, beq_self_eq_true, bne_self_eq_false, Int.reduceBEq, Int.reduceBNe, Int.reduceLE, Int.reduceLT, Int.reduceToNat, Int.reduceAdd, Int.reduceSub, k5, k6, k7, k8, k9, k10, w0, wr, w2, w3, wb, go1, go2, gr1, gr2, Nat.mul_one, Int.toNat_natCast, ci, ck, e1, e2, e3, eqT_nil, c0, c1, dl, n1, n2, n3]
        · simp (maxSteps := 1000000) (disch := first | omega | (simp only [AHeap.alloc_n, AHeap.upd_n, List.length_cons, List.length_nil, List.length_append] <;> omega) | fail) only [go_sem, reduceIte, Nat.reduceAdd, Nat.reduceEqDiff, Nat.reduceDiv, Nat.reduceMod, Nat.reducePow, Nat.reduceSub, Nat.reduceMul, Nat.reduceLeDiff, beq_self_eq_true, bne_self_eq_false, Int.reduceBEq, Int.reduceBNe, Int.reduceLE, Int.reduceLT, Int.reduceToNat, Int.reduceAdd, Int.reduceSub, k5, k6, k7, k8, k9, k10, w0, wr, w2, w3, wb, go1, go2, gr1, gr2, Nat.mul_one, Int.toNat_natCast, ci, ck, e1, e2, e3, eqT_nil, c0, c1, dl, n1, n2, n3]
        · simp (maxSteps := 1000000) (disch := first | omega | (simp only [AHeap.alloc_n, AHeap.upd_n, List.length_cons, List.length_nil, List.length_append] <;> omega) | fail) only [go_sem, reduceIte, Nat.reduceAdd, Nat.reduceEqDiff, Nat.reduceDiv, Nat.reduceMod, Nat.reducePow, Nat.reduceSub, Nat.reduceMul, Nat.reduceLeDiff, beq_self_eq_true, bne_self_eq_false, Int.reduceBEq, Int.reduceBNe, Int.reduceLE, Int.reduceLT, Int.reduceToNat, Int.reduceAdd, Int.reduceSub, k5, k6, k7, k8, k9, k10, w0, wr, w2, w3, wb, go1, go2, gr1, gr2, Nat.mul_one, Int.toNat_natCast, ci, ck, e1, e2, e3, eqT_nil, c0, c1, dl, n1, n2, n3]
        · exact absurd hg1 (by decide)
end Go.Ev
