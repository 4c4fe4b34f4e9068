/- The statement on levels. -/
import Derived.Test.YtccenddkgeglmaaDoorRK27
import Derived.Test.YtccenddkgeglmaaDoorL9
set_option linter.all false
set_option linter.unusedVariables false
set_option linter.unusedSimpArgs false
namespace Go.Ev
open Go
set_option maxRecDepth 100000
set_option maxHeartbeats 4000000

def low2 (n : Int) : Nat := (BitVec.ofInt 64 n &&& BitVec.ofInt 64 3).toNat
theorem low2_lt (n : Int) : low2 n < 4 := by
  have h : low2 n = (BitVec.ofInt 64 n).toNat &&& 3 := by
    show (BitVec.ofInt 64 n &&& BitVec.ofInt 64 3 : BitVec 64).toNat = _
    rw [BitVec.toNat_and]
    rfl
  rw [h]
  exact Nat.lt_of_le_of_lt Nat.and_le_right (by decide)
theorem and_low2 (n : Int) : binA .and (.int .i64 n) (.int .i64 3) = some (.int .i64 (low2 n : Int)) := by
  have hv := low2_lt n
  show some (AV.int .i64 (IntKind.i64.wrap ((low2 n : Nat) : Int))) = _
  generalize low2 n = k at hv
  have : IntKind.i64.wrap (k : Int) = k := fits_wrap (by simp [fits]; omega)
  rw [this]

/-- A slice of ints in memory. -/
def IntsR (h : AHeap) (v : AV) (ns : List Int) : Prop := lenA v = some (ns.length : Int) ∧ (ns = [] ∨ ∃ b o c ex ver md cs, v = .slice b o ns.length c ex ∧ b < h.n ∧ h.get b = some ⟨ver, .cells md 1 cs⟩ ∧ ∀ i n, ns[i]? = some n → cs[o + i]? = some (.int .i64 n))
theorem lev_take {ms : List Nat} {i : Nat} (h : i < ms.length) : levB ((ms.take (i + 1)).reverse) = wrapB ms[i] (levB ((ms.take i).reverse)) := by
  rw [List.take_succ_eq_append_getElem h, List.reverse_append]
  rfl

theorem eb1 : eqT (.one .bool) (.bool true) (.bool true) = some true := rfl
theorem eb0 : eqT (.one .bool) (.bool false) (.bool false) = some true := rfl
theorem levels_law {ns : List Int} {v : AV} {h : AHeap} (hG : GH h) (hv : IntsR h v ns) : WF F 9 [v] h (fun r _ => r = .ret (.bool true)) := by
  obtain ⟨hlen, hv⟩ := hv
  refine WF.code F9 rfl ?_
  simp (maxSteps := 1000000) (disch := first | omega | (simp only [AHeap.alloc_n, AHeap.upd_n, List.length_cons, List.length_nil, List.length_append] <;> omega) | fail) only [go_sem, reduceIte, Nat.reduceAdd, Nat.reduceEqDiff, Nat.reduceDiv, Nat.reduceMod, Nat.reducePow, Nat.reduceSub, Nat.reduceMul, Nat.reduceLeDiff, beq_self_eq_true, bne_self_eq_false, Int.reduceBEq, Int.reduceBNe, Int.reduceLE, Int.reduceLT, Int.reduceToNat, Int.reduceAdd, Int.reduceSub]
  refine alive06 hG ?_
  intro h1 hf1
  have hn1 := hf1.n; try simp only [AHeap.alloc_n, AHeap.upd_n] at hn1
  have hG1 := hf1.gh hG.n hG
  simp (maxSteps := 1000000) (disch := first | omega | (simp only [AHeap.alloc_n, AHeap.upd_n, List.length_cons, List.length_nil, List.length_append] <;> omega) | fail) only [go_sem, reduceIte, Nat.reduceAdd, Nat.reduceEqDiff, Nat.reduceDiv, Nat.reduceMod, Nat.reducePow, Nat.reduceSub, Nat.reduceMul, Nat.reduceLeDiff, beq_self_eq_true, bne_self_eq_false, Int.reduceBEq, Int.reduceBNe, Int.reduceLE, Int.reduceLT, Int.reduceToNat, Int.reduceAdd, Int.reduceSub, hlen]
  (first | refine condP_splitN (fun hbig => ?_) (fun hbig => ?_) | refine wantP_splitN (fun hbig => ?_) (fun hbig => ?_) | refine wantPD_splitN (fun hbig => ?_) (fun hbig => ?_) | refine condP_split (fun hbig => ?_) (fun hbig => ?_) | refine wantP_split (fun hbig => ?_) (fun hbig => ?_) | refine wantPD_split (fun hbig => ?_) (fun hbig => ?_))
  · simp (maxSteps := 1000000) (disch := first | omega | (simp only [AHeap.alloc_n, AHeap.upd_n, List.length_cons, List.length_nil, List.length_append] <;> omega) | fail) only [go_sem, reduceIte, Nat.reduceAdd, Nat.reduceEqDiff, Nat.reduceDiv, Nat.reduceMod, Nat.reducePow, Nat.reduceSub, Nat.reduceMul, Nat.reduceLeDiff, beq_self_eq_true, bne_self_eq_false, Int.reduceBEq, Int.reduceBNe, Int.reduceLE, Int.reduceLT, Int.reduceToNat, Int.reduceAdd, Int.reduceSub]
  · have h100 : ns.length ≤ 100 := by have := of_decide_eq_false hbig; omega
    simp (maxSteps := 1000000) (disch := first | omega | (simp only [AHeap.alloc_n, AHeap.upd_n, List.length_cons, List.length_nil, List.length_append] <;> omega) | fail) only [go_sem, reduceIte, Nat.reduceAdd, Nat.reduceEqDiff, Nat.reduceDiv, Nat.reduceMod, Nat.reducePow, Nat.reduceSub, Nat.reduceMul, Nat.reduceLeDiff, beq_self_eq_true, bne_self_eq_false, Int.reduceBEq, Int.reduceBNe, Int.reduceLE, Int.reduceLT, Int.reduceToNat, Int.reduceAdd, Int.reduceSub, hlen]
    generalize hms : ns.map low2 = ms
    have hml : ms.length = ns.length := by rw [← hms, List.length_map]
    refine wp_loop (fun n a h' => ∃ i : Nat, n = ns.length - i ∧ i ≤ ns.length ∧ h' = h1 ∧ a.tm.get 0 = some v ∧ a.tm.get 13 = some v ∧ a.tm.get 14 = some (.int .i64 (ns.length : Int)) ∧ a.tm.get 15 = some (.int .i64 (i : Int)) ∧ a.tm.get 3 = some (.str (levB ((ms.take i).reverse))) ∧ a.df = []) ?_ ns.length ?_
    · rintro n ⟨t, df⟩ h2 ⟨i, hn, hi, rfl, k0, k13, k14, k15, k3, hdf⟩
      simp only at k0 k13 k14 k15 k3 hdf
      subst hdf
      simp (maxSteps := 1000000) (disch := first | omega | (simp only [AHeap.alloc_n, AHeap.upd_n, List.length_cons, List.length_nil, List.length_append] <;> omega) | fail) only [go_sem, reduceIte, Nat.reduceAdd, Nat.reduceEqDiff, Nat.reduceDiv, Nat.reduceMod, Nat.reducePow, Nat.reduceSub, Nat.reduceMul, Nat.reduceLeDiff, beq_self_eq_true, bne_self_eq_false, Int.reduceBEq, Int.reduceBNe, Int.reduceLE, Int.reduceLT, Int.reduceToNat, Int.reduceAdd, Int.reduceSub, k14, k15]
      (first | refine condP_splitN (fun hlt => ?_) (fun hlt => ?_) | refine wantP_splitN (fun hlt => ?_) (fun hlt => ?_) | refine wantPD_splitN (fun hlt => ?_) (fun hlt => ?_) | refine condP_split (fun hlt => ?_) (fun hlt => ?_) | refine wantP_split (fun hlt => ?_) (fun hlt => ?_) | refine wantPD_split (fun hlt => ?_) (fun hlt => ?_))
      · have hil : i < ns.length := (by have := of_decide_eq_true hlt; omega)
        rcases hv with rfl | ⟨b, o, c, ex, ver, md, cs, rfl, hb1, hb2, hb3⟩
        · simp at hil
        have hni : ns[i]? = some ns[i] := List.getElem?_eq_getElem hil
        have hci := hb3 i _ hni
        have hmi : ms[i]'(by omega) = low2 ns[i] := by subst hms; simp
        have hstep := lev_take (ms := ms) (i := i) (by omega)
        rw [hmi] at hstep
        have h4 := low2_lt ns[i]
        have hL := levB_len ((ms.take i).reverse)
        rw [List.length_reverse, List.length_take] at hL
        generalize ns[i] = m at hci hstep h4
        have hb2' : h2.get b = some ⟨ver, .cells md 1 cs⟩ := by rw [hf1.all hb1]; exact hb2
        have ha := and_low2 m
        generalize levB ((ms.take i).reverse) = S at k3 hstep hL
        have hS : S.length ≤ 600 := by omega
        simp (maxSteps := 1000000) (disch := first | omega | (simp only [AHeap.alloc_n, AHeap.upd_n, List.length_cons, List.length_nil, List.length_append] <;> omega) | fail) only [go_sem, reduceIte, Nat.reduceAdd, Nat.reduceEqDiff, Nat.reduceDiv, Nat.reduceMod, Nat.reducePow, Nat.reduceSub, Nat.reduceMul, Nat.reduceLeDiff, beq_self_eq_true, bne_self_eq_false, Int.reduceBEq, Int.reduceBNe, Int.reduceLE, Int.reduceLT, Int.reduceToNat, Int.reduceAdd, Int.reduceSub, k0, k3, k13, k14, k15, Int.toNat_natCast, Nat.mul_one, hb2', hci, ha]
        generalize low2 m = w at hstep h4
        have hw : w = 0 ∨ w = 1 ∨ w = 2 ∨ w = 3 := by omega
        rcases hw with rfl | rfl | rfl | rfl
        · simp (maxSteps := 1000000) (disch := first | omega | (simp only [AHeap.alloc_n, AHeap.upd_n, List.length_cons, List.length_nil, List.length_append] <;> omega) | fail) only [go_sem, reduceIte, Nat.reduceAdd, Nat.reduceEqDiff, Nat.reduceDiv, Nat.reduceMod, Nat.reducePow, Nat.reduceSub, Nat.reduceMul, Nat.reduceLeDiff, beq_self_eq_true, bne_self_eq_false, Int.reduceBEq, Int.reduceBNe, Int.reduceLE, Int.reduceLT, Int.reduceToNat, Int.reduceAdd, Int.reduceSub, k0, k3, k13, k14, k15, Int.natCast_zero]
          exact ⟨_, hn ▸ Nat.sub_lt_sub_left hil (Nat.lt_succ_self i), i + 1, rfl, hil, rfl, by rw [hstep]; rfl⟩
        · simp (maxSteps := 1000000) (disch := first | omega | (simp only [AHeap.alloc_n, AHeap.upd_n, List.length_cons, List.length_nil, List.length_append] <;> omega) | fail) only [go_sem, reduceIte, Nat.reduceAdd, Nat.reduceEqDiff, Nat.reduceDiv, Nat.reduceMod, Nat.reducePow, Nat.reduceSub, Nat.reduceMul, Nat.reduceLeDiff, beq_self_eq_true, bne_self_eq_false, Int.reduceBEq, Int.reduceBNe, Int.reduceLE, Int.reduceLT, Int.reduceToNat, Int.reduceAdd, Int.reduceSub, k0, k3, k13, k14, k15]
          exact ⟨_, hn ▸ Nat.sub_lt_sub_left hil (Nat.lt_succ_self i), i + 1, rfl, hil, rfl, by rw [hstep]; rfl⟩
        · simp (maxSteps := 1000000) (disch := first | omega | (simp only [AHeap.alloc_n, AHeap.upd_n, List.length_cons, List.length_nil, List.length_append] <;> omega) | fail) only [go_sem, reduceIte, Nat.reduceAdd, Nat.reduceEqDiff, Nat.reduceDiv, Nat.reduceMod, Nat.reducePow, Nat.reduceSub, Nat.reduceMul, Nat.reduceLeDiff, beq_self_eq_true, bne_self_eq_false, Int.reduceBEq, Int.reduceBNe, Int.reduceLE, Int.reduceLT, Int.reduceToNat, Int.reduceAdd, Int.reduceSub, k0, k3, k13, k14, k15]
          exact ⟨_, hn ▸ Nat.sub_lt_sub_left hil (Nat.lt_succ_self i), i + 1, rfl, hil, rfl, by rw [hstep]; rfl⟩
        · simp (maxSteps := 1000000) (disch := first | omega | (simp only [AHeap.alloc_n, AHeap.upd_n, List.length_cons, List.length_nil, List.length_append] <;> omega) | fail) only [go_sem, reduceIte, Nat.reduceAdd, Nat.reduceEqDiff, Nat.reduceDiv, Nat.reduceMod, Nat.reducePow, Nat.reduceSub, Nat.reduceMul, Nat.reduceLeDiff, beq_self_eq_true, bne_self_eq_false, Int.reduceBEq, Int.reduceBNe, Int.reduceLE, Int.reduceLT, Int.reduceToNat, Int.reduceAdd, Int.reduceSub, k0, k3, k13, k14, k15]
          exact ⟨_, hn ▸ Nat.sub_lt_sub_left hil (Nat.lt_succ_self i), i + 1, rfl, hil, rfl, by rw [hstep]; rfl⟩
      · have hil : i = ns.length := by have := of_decide_eq_false hlt; omega
        subst hil
        rw [← hml, List.take_length] at k3
        have hE := lev_expr (ks := ms.reverse) (by rw [List.length_reverse]; omega)
        have hL := levB_len ms.reverse
        rw [List.length_reverse, hml] at hE hL
        simp (maxSteps := 1000000) (disch := first | omega | (simp only [AHeap.alloc_n, AHeap.upd_n, List.length_cons, List.length_nil, List.length_append] <;> omega) | fail) only [go_sem, reduceIte, Nat.reduceAdd, Nat.reduceEqDiff, Nat.reduceDiv, Nat.reduceMod, Nat.reducePow, Nat.reduceSub, Nat.reduceMul, Nat.reduceLeDiff, beq_self_eq_true, bne_self_eq_false, Int.reduceBEq, Int.reduceBNe, Int.reduceLE, Int.reduceLT, Int.reduceToNat, Int.reduceAdd, Int.reduceSub, k3]
        refine expr_read (by omega) hG1 ?_
        by_cases h16 : ns.length ≤ 16
        · rw [if_pos h16] at hE
          obtain ⟨nd, e⟩ := hE
          rw [e]
          intro h3 kv hf3 hk3
          have d16 : decide ((ns.length : Int) ≤ 16) = true := decide_eq_true (by omega)
          simp (maxSteps := 1000000) (disch := first | omega | (simp only [AHeap.alloc_n, AHeap.upd_n, List.length_cons, List.length_nil, List.length_append] <;> omega) | fail) only [go_sem, reduceIte, Nat.reduceAdd, Nat.reduceEqDiff, Nat.reduceDiv, Nat.reduceMod, Nat.reducePow, Nat.reduceSub, Nat.reduceMul, Nat.reduceLeDiff, beq_self_eq_true, bne_self_eq_false, Int.reduceBEq, Int.reduceBNe, Int.reduceLE, Int.reduceLT, Int.reduceToNat, Int.reduceAdd, Int.reduceSub, k0, hlen, hk3.flat.1, hk3.flat.2, eqT_nil, d16, eb1]
        · rw [if_neg h16] at hE
          obtain ⟨p, e⟩ := hE
          rw [e]
          intro h3 hf3
          have d16 : decide ((ns.length : Int) ≤ 16) = false := decide_eq_false (by omega)
          simp (maxSteps := 1000000) (disch := first | omega | (simp only [AHeap.alloc_n, AHeap.upd_n, List.length_cons, List.length_nil, List.length_append] <;> omega) | fail) only [go_sem, reduceIte, Nat.reduceAdd, Nat.reduceEqDiff, Nat.reduceDiv, Nat.reduceMod, Nat.reducePow, Nat.reduceSub, Nat.reduceMul, Nat.reduceLeDiff, beq_self_eq_true, bne_self_eq_false, Int.reduceBEq, Int.reduceBNe, Int.reduceLE, Int.reduceLT, Int.reduceToNat, Int.reduceAdd, Int.reduceSub, k0, hlen, eqT_err, d16, eb0]
    · exact ⟨0, rfl, Nat.zero_le _, rfl, by simp (maxSteps := 1000000) (disch := first | omega | (simp only [AHeap.alloc_n, AHeap.upd_n, List.length_cons, List.length_nil, List.length_append] <;> omega) | fail) only [go_sem, reduceIte, Nat.reduceAdd, Nat.reduceEqDiff, Nat.reduceDiv, Nat.reduceMod, Nat.reducePow, Nat.reduceSub, Nat.reduceMul, Nat.reduceLeDiff, beq_self_eq_true, bne_self_eq_false, Int.reduceBEq, Int.reduceBNe, Int.reduceLE, Int.reduceLT, Int.reduceToNat, Int.reduceAdd, Int.reduceSub], by simp (maxSteps := 1000000) (disch := first | omega | (simp only [AHeap.alloc_n, AHeap.upd_n, List.length_cons, List.length_nil, List.length_append] <;> omega) | fail) only [go_sem, reduceIte, Nat.reduceAdd, Nat.reduceEqDiff, Nat.reduceDiv, Nat.reduceMod, Nat.reducePow, Nat.reduceSub, Nat.reduceMul, Nat.reduceLeDiff, beq_self_eq_true, bne_self_eq_false, Int.reduceBEq, Int.reduceBNe, Int.reduceLE, Int.reduceLT, Int.reduceToNat, Int.reduceAdd, Int.reduceSub], by simp (maxSteps := 1000000) (disch := first | omega | (simp only [AHeap.alloc_n, AHeap.upd_n, List.length_cons, List.length_nil, List.length_append] <;> omega) | fail) only [go_sem, reduceIte, Nat.reduceAdd, Nat.reduceEqDiff, Nat.reduceDiv, Nat.reduceMod, Nat.reducePow, Nat.reduceSub, Nat.reduceMul, Nat.reduceLeDiff, beq_self_eq_true, bne_self_eq_false, Int.reduceBEq, Int.reduceBNe, Int.reduceLE, Int.reduceLT, Int.reduceToNat, Int.reduceAdd, Int.reduceSub], by (first | (simp (maxSteps := 1000000) (disch := first | omega | (simp only [AHeap.alloc_n, AHeap.upd_n, List.length_cons, List.length_nil, List.length_append] <;> omega) | fail) only [go_sem, reduceIte, Nat.reduceAdd, Nat.reduceEqDiff, Nat.reduceDiv, Nat.reduceMod, Nat.reducePow, Nat.reduceSub, Nat.reduceMul, Nat.reduceLeDiff, beq_self_eq_true, bne_self_eq_false, Int.reduceBEq, Int.reduceBNe, Int.reduceLE, Int.reduceLT, Int.reduceToNat, Int.reduceAdd, Int.reduceSub]; done) | (simp (maxSteps := 1000000) (disch := first | omega | (simp only [AHeap.alloc_n, AHeap.upd_n, List.length_cons, List.length_nil, List.length_append] <;> omega) | fail) only [go_sem, reduceIte, Nat.reduceAdd, Nat.reduceEqDiff, Nat.reduceDiv, Nat.reduceMod, Nat.reducePow, Nat.reduceSub, Nat.reduceMul, Nat.reduceLeDiff, beq_self_eq_true, bne_self_eq_false, Int.reduceBEq, Int.reduceBNe, Int.reduceLE, Int.reduceLT, Int.reduceToNat, Int.reduceAdd, Int.reduceSub]; rfl)), by (first | (simp (maxSteps := 1000000) (disch := first | omega | (simp only [AHeap.alloc_n, AHeap.upd_n, List.length_cons, List.length_nil, List.length_append] <;> omega) | fail) only [go_sem, reduceIte, Nat.reduceAdd, Nat.reduceEqDiff, Nat.reduceDiv, Nat.reduceMod, Nat.reducePow, Nat.reduceSub, Nat.reduceMul, Nat.reduceLeDiff, beq_self_eq_true, bne_self_eq_false, Int.reduceBEq, Int.reduceBNe, Int.reduceLE, Int.reduceLT, Int.reduceToNat, Int.reduceAdd, Int.reduceSub]; done) | (simp (maxSteps := 1000000) (disch := first | omega | (simp only [AHeap.alloc_n, AHeap.upd_n, List.length_cons, List.length_nil, List.length_append] <;> omega) | fail) only [go_sem, reduceIte, Nat.reduceAdd, Nat.reduceEqDiff, Nat.reduceDiv, Nat.reduceMod, Nat.reducePow, Nat.reduceSub, Nat.reduceMul, Nat.reduceLeDiff, beq_self_eq_true, bne_self_eq_false, Int.reduceBEq, Int.reduceBNe, Int.reduceLE, Int.reduceLT, Int.reduceToNat, Int.reduceAdd, Int.reduceSub]; rfl)), by simp (maxSteps := 1000000) (disch := first | omega | (simp only [AHeap.alloc_n, AHeap.upd_n, List.length_cons, List.length_nil, List.length_append] <;> omega) | fail) only [go_sem, reduceIte, Nat.reduceAdd, Nat.reduceEqDiff, Nat.reduceDiv, Nat.reduceMod, Nat.reducePow, Nat.reduceSub, Nat.reduceMul, Nat.reduceLeDiff, beq_self_eq_true, bne_self_eq_false, Int.reduceBEq, Int.reduceBNe, Int.reduceLE, Int.reduceLT, Int.reduceToNat, Int.reduceAdd, Int.reduceSub]⟩
end Go.Ev
