/- The statements on trees: the chapter's example; how operators group. -/
import Derived.Test.YtccenddkgeglmaaDoorRK26
import Derived.Test.YtccenddkgeglmaaDoorL8
set_option linter.all false
set_option linter.unusedVariables false
set_option linter.unusedSimpArgs false
namespace Go.Ev
open Go
set_option maxRecDepth 100000
set_option maxHeartbeats 4000000

theorem kids2 {lo : Nat} {h : AHeap} {x y : Nd} {kv : AV} (k : KidsR lo h [x, y] kv) : ∃ b ver ex kx ky, kv = .slice b 0 2 2 ex ∧ lo ≤ b ∧ b < h.n ∧ h.get b = some ⟨ver, .cells .own 9 (ndC x kx ++ ndC y ky)⟩ := by
  cases k with
  | row h1 h2 h3 h4 h5 =>
    cases h5 with
    | cons k1 k2 =>
      cases k2 with
      | cons k3 k4 =>
        cases k4
        rw [List.append_nil] at h4
        exact ⟨_, _, _, _, _, rfl, h2, h3, h4⟩
theorem alive06 {h : AHeap} (hG : GH h) {Q : QR} (hQ : ∀ h', Fr h.n h h' → Q (.ret (.bool true)) h') : WF F 18 [] h Q := by
  refine WF.code F18 rfl ?_
  simp (maxSteps := 1000000) (disch := first | omega | (simp only [AHeap.alloc_n, AHeap.upd_n, List.length_cons, List.length_nil, List.length_append] <;> omega) | fail) only [go_sem, reduceIte, Nat.reduceAdd, Nat.reduceEqDiff, Nat.reduceDiv, Nat.reduceMod, Nat.reducePow, Nat.reduceSub, Nat.reduceMul, Nat.reduceLeDiff, beq_self_eq_true, bne_self_eq_false, Int.reduceBEq, Int.reduceBNe, Int.reduceLE, Int.reduceLT, Int.reduceToNat, Int.reduceAdd, Int.reduceSub]
  refine expr_read (by decide) hG ?_
  rw [alive6a]
  intro h1 kv hf1 hk1
  have hn1 := hf1.n; try simp only [AHeap.alloc_n, AHeap.upd_n] at hn1
  have hG1 := hf1.gh hG.n hG
  obtain ⟨b, ver, ex, kx, ky, rfl, hb1, hb2, hb3⟩ := kids2 hk1
  simp (maxSteps := 1000000) (disch := first | omega | (simp only [AHeap.alloc_n, AHeap.upd_n, List.length_cons, List.length_nil, List.length_append] <;> omega) | fail) only [go_sem, reduceIte, Nat.reduceAdd, Nat.reduceEqDiff, Nat.reduceDiv, Nat.reduceMod, Nat.reducePow, Nat.reduceSub, Nat.reduceMul, Nat.reduceLeDiff, beq_self_eq_true, bne_self_eq_false, Int.reduceBEq, Int.reduceBNe, Int.reduceLE, Int.reduceLT, Int.reduceToNat, Int.reduceAdd, Int.reduceSub, Nd.kind, Nd.pos, Nd.name, Nd.typ, Nd.n, Nd.size, Nd.obj, Nd.bits]
  have hn0 := hG1.n
  generalize hH : AHeap.upd _ _ _ _ = H
  have hHn : H.n = h1.n + 2 := by rw [← hH]; simp (maxSteps := 1000000) (disch := first | omega | (simp only [AHeap.alloc_n, AHeap.upd_n, List.length_cons, List.length_nil, List.length_append] <;> omega) | fail) only [go_sem, reduceIte, Nat.reduceAdd, Nat.reduceEqDiff, Nat.reduceDiv, Nat.reduceMod, Nat.reducePow, Nat.reduceSub, Nat.reduceMul, Nat.reduceLeDiff, beq_self_eq_true, bne_self_eq_false, Int.reduceBEq, Int.reduceBNe, Int.reduceLE, Int.reduceLT, Int.reduceToNat, Int.reduceAdd, Int.reduceSub]
  have hHo : ∀ b', b' < h1.n → H.get b' = h1.get b' := fun b' hb' => by rw [← hH]; simp (maxSteps := 1000000) (disch := first | omega | (simp only [AHeap.alloc_n, AHeap.upd_n, List.length_cons, List.length_nil, List.length_append] <;> omega) | fail) only [go_sem, reduceIte, Nat.reduceAdd, Nat.reduceEqDiff, Nat.reduceDiv, Nat.reduceMod, Nat.reducePow, Nat.reduceSub, Nat.reduceMul, Nat.reduceLeDiff, beq_self_eq_true, bne_self_eq_false, Int.reduceBEq, Int.reduceBNe, Int.reduceLE, Int.reduceLT, Int.reduceToNat, Int.reduceAdd, Int.reduceSub]
  have hHb : H.get b = some ⟨ver, .cells .own 9 [.int .i64 25, .int .i64 0, .str [], .int .i64 0, .int .i64 1, .int .i64 0, .int .i64 0, .int .u64 0, kx, .int .i64 31, .int .i64 2, .str [42], .int .i64 0, .int .i64 0, .int .i64 0, .int .i64 0, .int .u64 0, ky]⟩ := by rw [hHo _ hb2]; exact hb3
  have hH1 : H.get h1.n = some ⟨1, .cells .own 0 [.int .i64 31, .int .i64 0, .str [43], .int .i64 0, .int .i64 0, .int .i64 0, .int .i64 0, .int .u64 0, .slice b 0 2 2 ex]⟩ := by rw [← hH]; simp (maxSteps := 1000000) (disch := first | omega | (simp only [AHeap.alloc_n, AHeap.upd_n, List.length_cons, List.length_nil, List.length_append] <;> omega) | fail) only [go_sem, reduceIte, Nat.reduceAdd, Nat.reduceEqDiff, Nat.reduceDiv, Nat.reduceMod, Nat.reducePow, Nat.reduceSub, Nat.reduceMul, Nat.reduceLeDiff, beq_self_eq_true, bne_self_eq_false, Int.reduceBEq, Int.reduceBNe, Int.reduceLE, Int.reduceLT, Int.reduceToNat, Int.reduceAdd, Int.reduceSub]
  have hH2 : H.get (h1.n + 1) = some ⟨1, .cells .own 0 [.nilIface, .int .i64 0]⟩ := by rw [← hH]; simp (maxSteps := 1000000) (disch := first | omega | (simp only [AHeap.alloc_n, AHeap.upd_n, List.length_cons, List.length_nil, List.length_append] <;> omega) | fail) only [go_sem, reduceIte, Nat.reduceAdd, Nat.reduceEqDiff, Nat.reduceDiv, Nat.reduceMod, Nat.reducePow, Nat.reduceSub, Nat.reduceMul, Nat.reduceLeDiff, beq_self_eq_true, bne_self_eq_false, Int.reduceBEq, Int.reduceBNe, Int.reduceLE, Int.reduceLT, Int.reduceToNat, Int.reduceAdd, Int.reduceSub]
  have hGH : GH H := (show Fr h1.n h1 H from ⟨by omega, fun b hb _ => hHo b hb⟩).gh hG1.n hG1
  refine expr_read (by decide) hGH ?_
  rw [alive6b]
  intro h2 hf2
  have hn2 := hf2.n; try simp only [AHeap.alloc_n, AHeap.upd_n] at hn2
  have hG2 := hf2.gh hGH.n hGH
  have q1 := (hf2.all (b := h1.n) (by omega)).trans hH1
  have q2 := (hf2.all (b := h1.n + 1) (by omega)).trans hH2
  have q3 := (hf2.all (b := b) (by omega)).trans hHb
  have c1 : decide ((1 : Int) < ((2 : Nat) : Int)) = true := by decide
  simp (maxSteps := 1000000) (disch := first | omega | (simp only [AHeap.alloc_n, AHeap.upd_n, List.length_cons, List.length_nil, List.length_append] <;> omega) | fail) only [go_sem, reduceIte, Nat.reduceAdd, Nat.reduceEqDiff, Nat.reduceDiv, Nat.reduceMod, Nat.reducePow, Nat.reduceSub, Nat.reduceMul, Nat.reduceLeDiff, beq_self_eq_true, bne_self_eq_false, Int.reduceBEq, Int.reduceBNe, Int.reduceLE, Int.reduceLT, Int.reduceToNat, Int.reduceAdd, Int.reduceSub, eqT_nil, q1, q2, q3, c1]
  have hlt : h1.n + 2 ≤ h2.n := by omega
  generalize hK : AHeap.upd _ _ _ _ = K
  have hKn : K.n = h2.n + 2 := by rw [← hK]; simp (maxSteps := 1000000) (disch := first | omega | (simp only [AHeap.alloc_n, AHeap.upd_n, List.length_cons, List.length_nil, List.length_append] <;> omega) | fail) only [go_sem, reduceIte, Nat.reduceAdd, Nat.reduceEqDiff, Nat.reduceDiv, Nat.reduceMod, Nat.reducePow, Nat.reduceSub, Nat.reduceMul, Nat.reduceLeDiff, beq_self_eq_true, bne_self_eq_false, Int.reduceBEq, Int.reduceBNe, Int.reduceLE, Int.reduceLT, Int.reduceToNat, Int.reduceAdd, Int.reduceSub]
  have hKo : ∀ b', b' < h2.n → K.get b' = h2.get b' := fun b' hb' => by rw [← hK]; simp (maxSteps := 1000000) (disch := first | omega | (simp only [AHeap.alloc_n, AHeap.upd_n, List.length_cons, List.length_nil, List.length_append] <;> omega) | fail) only [go_sem, reduceIte, Nat.reduceAdd, Nat.reduceEqDiff, Nat.reduceDiv, Nat.reduceMod, Nat.reducePow, Nat.reduceSub, Nat.reduceMul, Nat.reduceLeDiff, beq_self_eq_true, bne_self_eq_false, Int.reduceBEq, Int.reduceBNe, Int.reduceLE, Int.reduceLT, Int.reduceToNat, Int.reduceAdd, Int.reduceSub]
  have hK2 : K.get (h2.n + 1) = some ⟨1, .cells .own 0 [errAV 2, .int .i64 3]⟩ := by rw [← hK]; simp (maxSteps := 1000000) (disch := first | omega | (simp only [AHeap.alloc_n, AHeap.upd_n, List.length_cons, List.length_nil, List.length_append] <;> omega) | fail) only [go_sem, reduceIte, Nat.reduceAdd, Nat.reduceEqDiff, Nat.reduceDiv, Nat.reduceMod, Nat.reducePow, Nat.reduceSub, Nat.reduceMul, Nat.reduceLeDiff, beq_self_eq_true, bne_self_eq_false, Int.reduceBEq, Int.reduceBNe, Int.reduceLE, Int.reduceLT, Int.reduceToNat, Int.reduceAdd, Int.reduceSub]
  have hGK : GH K := (show Fr h2.n h2 K from ⟨by omega, fun b hb _ => hKo b hb⟩).gh hG2.n hG2
  refine num_spec (e := 2) hGK (by decide) (by decide) ?_
  intro h3 hf3
  have hn3 := hf3.n; try simp only [AHeap.alloc_n, AHeap.upd_n] at hn3
  have q4 := (hf3.all (b := h2.n + 1) (by omega)).trans hK2
  simp (maxSteps := 1000000) (disch := first | omega | (simp only [AHeap.alloc_n, AHeap.upd_n, List.length_cons, List.length_nil, List.length_append] <;> omega) | fail) only [go_sem, reduceIte, Nat.reduceAdd, Nat.reduceEqDiff, Nat.reduceDiv, Nat.reduceMod, Nat.reducePow, Nat.reduceSub, Nat.reduceMul, Nat.reduceLeDiff, beq_self_eq_true, bne_self_eq_false, Int.reduceBEq, Int.reduceBNe, Int.reduceLE, Int.reduceLT, Int.reduceToNat, Int.reduceAdd, Int.reduceSub, q4]
  refine hQ _ ⟨by omega, fun b hb _ => ?_⟩
  rw [hf3.all (by omega), hKo _ (by omega), hf2.all (by omega), hHo _ (by omega), hf1.all hb]
end Go.Ev
