/- The statement on ints: every int in digits is one token. -/
import Derived.Test.YtccenddkgeglmaaDoorTK11
import Derived.Test.YtccenddkgeglmaaDoorL3
set_option linter.all false
set_option linter.unusedVariables false
set_option linter.unusedSimpArgs false
namespace Go.Ev
open Go
set_option maxRecDepth 100000
set_option maxHeartbeats 4000000

theorem and_i64 (n : Int) : ∃ N : Nat, N < 2 ^ 63 ∧ binA .and (.int .i64 n) (.int .i64 9223372036854775807) = some (.int .i64 (N : Int)) := by
  let v : BitVec 64 := BitVec.ofInt 64 n &&& BitVec.ofInt 64 9223372036854775807
  have hv : v.toNat < 2 ^ 63 := by
    have h : v.toNat = (BitVec.ofInt 64 n).toNat &&& 9223372036854775807 := by
      show (BitVec.ofInt 64 n &&& BitVec.ofInt 64 9223372036854775807 : BitVec 64).toNat = _
      rw [BitVec.toNat_and]
      rfl
    rw [h]
    exact Nat.lt_of_le_of_lt Nat.and_le_right (by decide)
  refine ⟨v.toNat, hv, ?_⟩
  show some (AV.int .i64 (IntKind.i64.wrap ((v.toNat : Nat) : Int))) = _
  generalize v.toNat = k at hv
  have : IntKind.i64.wrap (k : Int) = k := fits_wrap (by simp [fits]; omega)
  rw [this]

theorem decimal_spec {h : AHeap} {n : Nat} (hn : n < 2 ^ 63) {Q : QR} (hQ : ∀ h', Fr h.n h h' → Q (.ret (.str (dec n))) h') : WF F 16 [.int .i64 (n : Int)] h Q := by
  refine WF.code F16 rfl ?_
  simp (maxSteps := 1000000) (disch := first | omega | (simp only [AHeap.alloc_n, AHeap.upd_n, List.length_cons, List.length_nil, List.length_append] <;> omega) | fail) only [go_sem, reduceIte, Nat.reduceAdd, Nat.reduceEqDiff, Nat.reduceDiv, Nat.reduceMod, Nat.reducePow, Nat.reduceSub, Nat.reduceMul, Nat.reduceLeDiff, beq_self_eq_true, Int.reduceBEq, Int.reduceLE, Int.reduceLT, Int.reduceToNat, Int.reduceAdd, Int.reduceSub]
  refine wp_loop (fun m a h' => ∃ s, m < 2 ^ 63 ∧ dec n = dec m ++ s ∧ Fr h.n h h' ∧ s.length < 2 ^ 62 ∧ a.tm.get 0 = some (.int .i64 (m : Int)) ∧ a.tm.get 3 = some (.str s) ∧ a.df = []) ?_ n ?_
  · rintro m ⟨t, df⟩ h' ⟨s, hm, hd, hf, hs, k0, k3, hdf⟩
    simp only at k0 k3 hdf
    subst hdf
    simp (maxSteps := 1000000) (disch := first | omega | (simp only [AHeap.alloc_n, AHeap.upd_n, List.length_cons, List.length_nil, List.length_append] <;> omega) | fail) only [go_sem, reduceIte, Nat.reduceAdd, Nat.reduceEqDiff, Nat.reduceDiv, Nat.reduceMod, Nat.reducePow, Nat.reduceSub, Nat.reduceMul, Nat.reduceLeDiff, beq_self_eq_true, Int.reduceBEq, Int.reduceLE, Int.reduceLT, Int.reduceToNat, Int.reduceAdd, Int.reduceSub, k0]
    (first | refine condP_splitN (fun hc => ?_) (fun hc => ?_) | refine wantP_splitN (fun hc => ?_) (fun hc => ?_) | refine wantPD_splitN (fun hc => ?_) (fun hc => ?_) | refine condP_split (fun hc => ?_) (fun hc => ?_) | refine wantP_split (fun hc => ?_) (fun hc => ?_) | refine wantPD_split (fun hc => ?_) (fun hc => ?_))
    · have hc' : ¬ m ≤ 9 := by have := of_decide_eq_true hc; omega
      rw [dec_big hc', List.append_assoc] at hd
      have e : (48 + (m : Int) % 10).toNat = 48 + m % 10 := by omega
      have hdl : s.length ≤ 19 := by
        have h19 : (dec n).length ≤ 19 := (dec_facts n).2.2.2.2 19 (by omega) (by decide)
        rw [hd] at h19
        simp only [List.length_append] at h19
        omega
      simp (maxSteps := 1000000) (disch := first | omega | (simp only [AHeap.alloc_n, AHeap.upd_n, List.length_cons, List.length_nil, List.length_append] <;> omega) | fail) only [go_sem, reduceIte, Nat.reduceAdd, Nat.reduceEqDiff, Nat.reduceDiv, Nat.reduceMod, Nat.reducePow, Nat.reduceSub, Nat.reduceMul, Nat.reduceLeDiff, beq_self_eq_true, Int.reduceBEq, Int.reduceLE, Int.reduceLT, Int.reduceToNat, Int.reduceAdd, Int.reduceSub, k0, k3, bytesOf, e]
      exact ⟨m / 10, by omega, _, by omega, hd, hf.alloc _, by simp only [List.length_append, List.length_cons, List.length_nil]; omega, rfl, rfl⟩
    · have hc' : m ≤ 9 := by have := of_decide_eq_false hc; omega
      have e : (48 + (m : Int)).toNat = 48 + m := by omega
      simp (maxSteps := 1000000) (disch := first | omega | (simp only [AHeap.alloc_n, AHeap.upd_n, List.length_cons, List.length_nil, List.length_append] <;> omega) | fail) only [go_sem, reduceIte, Nat.reduceAdd, Nat.reduceEqDiff, Nat.reduceDiv, Nat.reduceMod, Nat.reducePow, Nat.reduceSub, Nat.reduceMul, Nat.reduceLeDiff, beq_self_eq_true, Int.reduceBEq, Int.reduceLE, Int.reduceLT, Int.reduceToNat, Int.reduceAdd, Int.reduceSub, k0, k3, bytesOf, e]
      rw [dec_small hc'] at hd
      rw [← hd]
      exact hQ _ (hf.alloc _)
  · simp (maxSteps := 1000000) (disch := first | omega | (simp only [AHeap.alloc_n, AHeap.upd_n, List.length_cons, List.length_nil, List.length_append] <;> omega) | fail) only [go_sem, reduceIte, Nat.reduceAdd, Nat.reduceEqDiff, Nat.reduceDiv, Nat.reduceMod, Nat.reducePow, Nat.reduceSub, Nat.reduceMul, Nat.reduceLeDiff, beq_self_eq_true, Int.reduceBEq, Int.reduceLE, Int.reduceLT, Int.reduceToNat, Int.reduceAdd, Int.reduceSub]
    exact ⟨[], hn, by simp, Fr.refl _ _, by simp, rfl⟩

theorem ints_law {n : Int} {h : AHeap} (hG : GH h) : WF F 4 [.int .i64 n] h (fun r _ => r = .ret (.bool true)) := by
  obtain ⟨N, hN, hand⟩ := and_i64 n
  obtain ⟨t1, t2, t3⟩ := tok_ints hN
  have hlen : (dec N).length ≤ 19 := (dec_facts N).2.2.2.2 19 (by omega) (by decide)
  refine WF.code F4 rfl ?_
  simp (maxSteps := 1000000) (disch := first | omega | (simp only [AHeap.alloc_n, AHeap.upd_n, List.length_cons, List.length_nil, List.length_append] <;> omega) | fail) only [go_sem, reduceIte, Nat.reduceAdd, Nat.reduceEqDiff, Nat.reduceDiv, Nat.reduceMod, Nat.reducePow, Nat.reduceSub, Nat.reduceMul, Nat.reduceLeDiff, beq_self_eq_true, Int.reduceBEq, Int.reduceLE, Int.reduceLT, Int.reduceToNat, Int.reduceAdd, Int.reduceSub]
  refine alive05 hG ?_
  intro h1 hf1
  have hG1 := hf1.gh hG.n hG
  have hn1 := hf1.n; try simp only [AHeap.alloc_n, AHeap.upd_n] at hn1
  simp (maxSteps := 1000000) (disch := first | omega | (simp only [AHeap.alloc_n, AHeap.upd_n, List.length_cons, List.length_nil, List.length_append] <;> omega) | fail) only [go_sem, reduceIte, Nat.reduceAdd, Nat.reduceEqDiff, Nat.reduceDiv, Nat.reduceMod, Nat.reducePow, Nat.reduceSub, Nat.reduceMul, Nat.reduceLeDiff, beq_self_eq_true, Int.reduceBEq, Int.reduceLE, Int.reduceLT, Int.reduceToNat, Int.reduceAdd, Int.reduceSub, hand]
  refine decimal_spec hN ?_
  intro h2 hf2
  have hG2 := hf2.gh hG1.n hG1
  have hn2 := hf2.n; try simp only [AHeap.alloc_n, AHeap.upd_n] at hn2
  simp (maxSteps := 1000000) (disch := first | omega | (simp only [AHeap.alloc_n, AHeap.upd_n, List.length_cons, List.length_nil, List.length_append] <;> omega) | fail) only [go_sem, reduceIte, Nat.reduceAdd, Nat.reduceEqDiff, Nat.reduceDiv, Nat.reduceMod, Nat.reducePow, Nat.reduceSub, Nat.reduceMul, Nat.reduceLeDiff, beq_self_eq_true, Int.reduceBEq, Int.reduceLE, Int.reduceLT, Int.reduceToNat, Int.reduceAdd, Int.reduceSub]
  refine tokens_spec hG2 (by omega) ?_
  rw [t1]
  intro h3 v3 hf3 hts3
  have hG3 := hf3.gh hG2.n hG2
  obtain ⟨b3, ver3, rfl, hlo3, hb3, hc3⟩ := hts3.block (by simp)
  have hc3' : h3.get b3 = some ⟨ver3, .cells .own 5 [.int .i64 3, .str (dec N), .int .i64 (N : Int), .int .u64 0, .int .i64 0]⟩ := hc3
  have hn3 := hf3.n; try simp only [AHeap.alloc_n, AHeap.upd_n] at hn3
  have hG3' := (hG3.alloc (.cells .own 0 [.nilIface, .int .i64 0])).upd (b := h3.n) hG3.n 1 (.cells .own 0 [.nilIface, .int .i64 0])
  simp (maxSteps := 1000000) (disch := first | omega | (simp only [AHeap.alloc_n, AHeap.upd_n, List.length_cons, List.length_nil, List.length_append] <;> omega) | fail) only [go_sem, reduceIte, Nat.reduceAdd, Nat.reduceEqDiff, Nat.reduceDiv, Nat.reduceMod, Nat.reducePow, Nat.reduceSub, Nat.reduceMul, Nat.reduceLeDiff, beq_self_eq_true, Int.reduceBEq, Int.reduceLE, Int.reduceLT, Int.reduceToNat, Int.reduceAdd, Int.reduceSub]
  refine tokens_spec hG3' (by simp only [List.length_append, List.length_cons, List.length_nil]; omega) ?_
  rw [show [48] ++ dec N = 48 :: dec N from rfl, t2]
  intro h4 hf4
  have hG4 := hf4.gh hG3'.n hG3'
  have hn4 := hf4.n; try simp only [AHeap.alloc_n, AHeap.upd_n] at hn4
  have hG4' := (hG4.alloc (.cells .own 0 [.nilIface, .int .i64 0])).upd (b := h4.n) hG4.n 1 (.cells .own 0 [errAV 2, .int .i64 1])
  simp (maxSteps := 1000000) (disch := first | omega | (simp only [AHeap.alloc_n, AHeap.upd_n, List.length_cons, List.length_nil, List.length_append] <;> omega) | fail) only [go_sem, reduceIte, Nat.reduceAdd, Nat.reduceEqDiff, Nat.reduceDiv, Nat.reduceMod, Nat.reducePow, Nat.reduceSub, Nat.reduceMul, Nat.reduceLeDiff, beq_self_eq_true, Int.reduceBEq, Int.reduceLE, Int.reduceLT, Int.reduceToNat, Int.reduceAdd, Int.reduceSub]
  refine tokens_spec hG4' (by simp only [List.length_append, List.length_cons, List.length_nil]; omega) ?_
  rw [t3]
  intro h5 hf5
  have hG5 := hf5.gh hG4'.n hG4'
  have hn5 := hf5.n; try simp only [AHeap.alloc_n, AHeap.upd_n] at hn5
  simp (maxSteps := 1000000) (disch := first | omega | (simp only [AHeap.alloc_n, AHeap.upd_n, List.length_cons, List.length_nil, List.length_append] <;> omega) | fail) only [go_sem, reduceIte, Nat.reduceAdd, Nat.reduceEqDiff, Nat.reduceDiv, Nat.reduceMod, Nat.reducePow, Nat.reduceSub, Nat.reduceMul, Nat.reduceLeDiff, beq_self_eq_true, Int.reduceBEq, Int.reduceLE, Int.reduceLT, Int.reduceToNat, Int.reduceAdd, Int.reduceSub, hf5.old, hf4.old, hc3', eqT_nil, eqT, eqKs, eqK]
  have hG5' := (hG5.alloc (.cells .own 0 [.nilIface, .int .i64 0])).upd (b := h5.n) hG5.n 1 (.cells .own 0 [errAV 2, .int .i64 (((dec N).length : Nat) : Int)])
  refine num_spec (e := 2) hG5' (by decide) (by decide) ?_
  intro h6 hf6
  have hG6 := hf6.gh hG5'.n hG5'
  have hn6 := hf6.n; try simp only [AHeap.alloc_n, AHeap.upd_n] at hn6
  simp (maxSteps := 1000000) (disch := first | omega | (simp only [AHeap.alloc_n, AHeap.upd_n, List.length_cons, List.length_nil, List.length_append] <;> omega) | fail) only [go_sem, reduceIte, Nat.reduceAdd, Nat.reduceEqDiff, Nat.reduceDiv, Nat.reduceMod, Nat.reducePow, Nat.reduceSub, Nat.reduceMul, Nat.reduceLeDiff, beq_self_eq_true, Int.reduceBEq, Int.reduceLE, Int.reduceLT, Int.reduceToNat, Int.reduceAdd, Int.reduceSub, hf6.old, hf5.old, hf4.old]
  refine num_spec (e := 2) hG6 (by decide) (by decide) ?_
  intro h7 hf7
  have hn7 := hf7.n; try simp only [AHeap.alloc_n, AHeap.upd_n] at hn7
  simp (maxSteps := 1000000) (disch := first | omega | (simp only [AHeap.alloc_n, AHeap.upd_n, List.length_cons, List.length_nil, List.length_append] <;> omega) | fail) only [go_sem, reduceIte, Nat.reduceAdd, Nat.reduceEqDiff, Nat.reduceDiv, Nat.reduceMod, Nat.reducePow, Nat.reduceSub, Nat.reduceMul, Nat.reduceLeDiff, beq_self_eq_true, Int.reduceBEq, Int.reduceLE, Int.reduceLT, Int.reduceToNat, Int.reduceAdd, Int.reduceSub, hf7.old, hf6.old, hf5.old]
end Go.Ev
