/- The statement on blanks: ahead of a text they move all places. -/
import Derived.Test.YtccenddkgeglmaaDoorTK12
import Derived.Test.YtccenddkgeglmaaDoorL5
import Derived.Test.YtccenddkgeglmaaDoorTRw
set_option linter.all false
set_option linter.unusedVariables false
set_option linter.unusedSimpArgs false
namespace Go.Ev
open Go
set_option maxRecDepth 100000
set_option maxHeartbeats 4000000

theorem tokAV_len (t : Tok) : (tokAV t).cells.length = 5 := rfl
theorem toks_get {ts : List Tok} {i j : Nat} {t : Tok} (h : ts[i]? = some t) (hj : j < 5) : (toksAV ts)[i * 5 + j]? = ((tokAV t).cells)[j]? := flat_get (f := fun t => (tokAV t).cells) (fun _ => rfl) h hj
theorem toks_row {ts : List Tok} {i : Nat} {t : Tok} (h : ts[i]? = some t) : row (toksAV ts) (i * 5) 5 = some (tokAV t).cells := flat_row (f := fun t => (tokAV t).cells) (fun _ => rfl) h
theorem toks_pos {ts : List Tok} {i : Nat} {t : Tok} {p : Nat} (h : ts[i]? = some t) : lay (toksAV ts) (i * 5 + 4) [.int .i64 (p : Int)] = some (toksAV (ts.set i { t with pos := p })) := flat_lay (f := fun t => (tokAV t).cells) (fun _ => rfl) (by decide) h rfl

theorem wr_u64_nn (n : Int) : 0 ≤ wr .u64 n := by
  unfold wr
  cases h : fits .u64 n with
  | true => simp [fits] at h; simpa using h.1
  | false =>
    simp only [cond_false, IntKind.wrap, IntKind.bits, IntKind.signed]
    simp
    omega
/-- How a call of Tokens goes on, whatever it answers. -/
theorem blanks_law {s : Bs} (hlen : s.length < 2 ^ 61) {n : Int} {h : AHeap} (hG : GH h) : WF F 6 [.str s, .int .i64 n] h (fun r _ => r = .ret (.bool true)) := by
  have hw := wr_u64_nn n
  obtain ⟨m, hm, hm20⟩ : ∃ m : Nat, wr .u64 n % 20 = (m : Int) ∧ m < 20 := ⟨(wr .u64 n % 20).toNat, by omega, by omega⟩
  refine WF.code F6 rfl ?_
  simp (maxSteps := 1000000) (disch := first | omega | (simp only [AHeap.alloc_n, AHeap.upd_n, List.length_cons, List.length_nil, List.length_append] <;> omega) | fail) only [go_sem, reduceIte, Nat.reduceAdd, Nat.reduceEqDiff, Nat.reduceDiv, Nat.reduceMod, Nat.reducePow, Nat.reduceSub, Nat.reduceMul, Nat.reduceLeDiff, beq_self_eq_true, bne_self_eq_false, Int.reduceBEq, Int.reduceBNe, Int.reduceLE, Int.reduceLT, Int.reduceToNat, Int.reduceAdd, Int.reduceSub]
  refine alive05 hG ?_
  intro h1 hf1
  have hG1 := hf1.gh hG.n hG
  have hn1 := hf1.n; try simp only [AHeap.alloc_n, AHeap.upd_n] at hn1
  simp (maxSteps := 1000000) (disch := first | omega | (simp only [AHeap.alloc_n, AHeap.upd_n, List.length_cons, List.length_nil, List.length_append] <;> omega) | fail) only [go_sem, reduceIte, Nat.reduceAdd, Nat.reduceEqDiff, Nat.reduceDiv, Nat.reduceMod, Nat.reducePow, Nat.reduceSub, Nat.reduceMul, Nat.reduceLeDiff, beq_self_eq_true, bne_self_eq_false, Int.reduceBEq, Int.reduceBNe, Int.reduceLE, Int.reduceLT, Int.reduceToNat, Int.reduceAdd, Int.reduceSub, hm]
  refine wp_loop (fun n a h' => ∃ k : Nat, n = m - k ∧ k ≤ m ∧ h' = h1 ∧ a.tm.get 18 = some (.int .i64 (k : Int)) ∧ a.tm.get 17 = some (.int .i64 (m : Int)) ∧ a.tm.get 5 = some (.str (blk k)) ∧ a.tm.get 0 = some (.str s) ∧ a.df = []) ?_ m ?_
  · rintro n ⟨t, df⟩ h' ⟨k, hn, hk, rfl, k18, k17, k5, k0, hdf⟩
    simp only at k0 k5 k17 k18 hdf
    subst hdf
    have hbl := blk_len k
    simp (maxSteps := 1000000) (disch := first | omega | (simp only [AHeap.alloc_n, AHeap.upd_n, List.length_cons, List.length_nil, List.length_append] <;> omega) | fail) only [go_sem, reduceIte, Nat.reduceAdd, Nat.reduceEqDiff, Nat.reduceDiv, Nat.reduceMod, Nat.reducePow, Nat.reduceSub, Nat.reduceMul, Nat.reduceLeDiff, beq_self_eq_true, bne_self_eq_false, Int.reduceBEq, Int.reduceBNe, Int.reduceLE, Int.reduceLT, Int.reduceToNat, Int.reduceAdd, Int.reduceSub, k17, k18]
    (first | refine condP_splitN (fun hc => ?_) (fun hc => ?_) | refine wantP_splitN (fun hc => ?_) (fun hc => ?_) | refine wantPD_splitN (fun hc => ?_) (fun hc => ?_) | refine condP_split (fun hc => ?_) (fun hc => ?_) | refine wantP_split (fun hc => ?_) (fun hc => ?_) | refine wantPD_split (fun hc => ?_) (fun hc => ?_))
    · have hc' : k < m := (by have := of_decide_eq_true hc; omega)
      have e4 : (k : Int) % 4 = ((k % 4 : Nat) : Int) := by omega
      have hb1 : bnd (some (.int .i64 ((k % 4 : Nat) : Int))) 0 (k % 4 + 1) = some (k % 4) := bnd_num (by omega)
      have hb2 : bnd (some (.int .i64 (((k % 4 : Nat) : Int) + 1))) 4 4 = some (k % 4 + 1) := bnd_num (i := k % 4 + 1) (by omega)
      have hcut : ∀ j, j < 4 → (List.drop j [32, 10, 9, 13]).take 1 = [[32, 10, 9, 13].getD j (0 : UInt8)] := by decide
      have hcut' : (List.drop (k % 4) [32, 10, 9, 13]).take (k % 4 + 1 - k % 4) = [[32, 10, 9, 13].getD (k % 4) (0 : UInt8)] := by rw [show k % 4 + 1 - k % 4 = 1 by omega]; exact hcut _ (by omega)
      simp (maxSteps := 1000000) (disch := first | omega | (simp only [AHeap.alloc_n, AHeap.upd_n, List.length_cons, List.length_nil, List.length_append] <;> omega) | fail) only [go_sem, reduceIte, Nat.reduceAdd, Nat.reduceEqDiff, Nat.reduceDiv, Nat.reduceMod, Nat.reducePow, Nat.reduceSub, Nat.reduceMul, Nat.reduceLeDiff, beq_self_eq_true, bne_self_eq_false, Int.reduceBEq, Int.reduceBNe, Int.reduceLE, Int.reduceLT, Int.reduceToNat, Int.reduceAdd, Int.reduceSub, k0, k5, k17, k18, e4, hb1, hb2, hcut']
      refine ⟨_, ?_, k + 1, rfl, by omega, rfl, ?_⟩
      · omega
      · rw [blk_succ]
    · have hkm : k = m := by have := of_decide_eq_false hc; omega
      subst hkm
      have hall := blk_all k
      simp (maxSteps := 1000000) (disch := first | omega | (simp only [AHeap.alloc_n, AHeap.upd_n, List.length_cons, List.length_nil, List.length_append] <;> omega) | fail) only [go_sem, reduceIte, Nat.reduceAdd, Nat.reduceEqDiff, Nat.reduceDiv, Nat.reduceMod, Nat.reducePow, Nat.reduceSub, Nat.reduceMul, Nat.reduceLeDiff, beq_self_eq_true, bne_self_eq_false, Int.reduceBEq, Int.reduceBNe, Int.reduceLE, Int.reduceLT, Int.reduceToNat, Int.reduceAdd, Int.reduceSub, k0, k5, hbl]
      (first | refine condP_splitN (fun hbig => ?_) (fun hbig => ?_) | refine wantP_splitN (fun hbig => ?_) (fun hbig => ?_) | refine wantPD_splitN (fun hbig => ?_) (fun hbig => ?_) | refine condP_split (fun hbig => ?_) (fun hbig => ?_) | refine wantP_split (fun hbig => ?_) (fun hbig => ?_) | refine wantPD_split (fun hbig => ?_) (fun hbig => ?_))
      · simp (maxSteps := 1000000) (disch := first | omega | (simp only [AHeap.alloc_n, AHeap.upd_n, List.length_cons, List.length_nil, List.length_append] <;> omega) | fail) only [go_sem, reduceIte, Nat.reduceAdd, Nat.reduceEqDiff, Nat.reduceDiv, Nat.reduceMod, Nat.reducePow, Nat.reduceSub, Nat.reduceMul, Nat.reduceLeDiff, beq_self_eq_true, bne_self_eq_false, Int.reduceBEq, Int.reduceBNe, Int.reduceLE, Int.reduceLT, Int.reduceToNat, Int.reduceAdd, Int.reduceSub]
      · have hb8 : ¬ 8192 < k + s.length := (by have := of_decide_eq_false hbig; omega)
        have hmv := tokens_blanks (b := blk k) (s := s) hall (by rw [hbl]; omega)
        rw [hbl] at hmv
        have herr := tokens_err s
        simp (maxSteps := 1000000) (disch := first | omega | (simp only [AHeap.alloc_n, AHeap.upd_n, List.length_cons, List.length_nil, List.length_append] <;> omega) | fail) only [go_sem, reduceIte, Nat.reduceAdd, Nat.reduceEqDiff, Nat.reduceDiv, Nat.reduceMod, Nat.reducePow, Nat.reduceSub, Nat.reduceMul, Nat.reduceLeDiff, beq_self_eq_true, bne_self_eq_false, Int.reduceBEq, Int.reduceBNe, Int.reduceLE, Int.reduceLT, Int.reduceToNat, Int.reduceAdd, Int.reduceSub, k0]
        refine tokens_spec hG1 (by omega) ?_
        cases hts : tokens s with
        | error x =>
          obtain ⟨e, p⟩ := x
          rw [hts] at hmv herr
          simp only [moveE] at hmv
          obtain ⟨⟨he1, he2⟩, hp⟩ := herr
          intro h2 hf2
          have hG2 := hf2.gh hG1.n hG1
          have hn2 := hf2.n; try simp only [AHeap.alloc_n, AHeap.upd_n] at hn2
          have hG2' := (hG2.alloc (.cells .own 0 [.nilIface, .int .i64 0])).upd (b := h2.n) hG2.n 1 (.cells .own 0 [errAV e, .int .i64 (p : Int)])
          simp (maxSteps := 1000000) (disch := first | omega | (simp only [AHeap.alloc_n, AHeap.upd_n, List.length_cons, List.length_nil, List.length_append] <;> omega) | fail) only [go_sem, reduceIte, Nat.reduceAdd, Nat.reduceEqDiff, Nat.reduceDiv, Nat.reduceMod, Nat.reducePow, Nat.reduceSub, Nat.reduceMul, Nat.reduceLeDiff, beq_self_eq_true, bne_self_eq_false, Int.reduceBEq, Int.reduceBNe, Int.reduceLE, Int.reduceLT, Int.reduceToNat, Int.reduceAdd, Int.reduceSub, k0, k5]
          refine tokens_spec hG2' (by rw [List.length_append]; omega) ?_
          rw [hmv]
          intro h3 hf3
          have hG3 := hf3.gh hG2'.n hG2'
          have hn3 := hf3.n; try simp only [AHeap.alloc_n, AHeap.upd_n] at hn3
          have hG3' := (hG3.alloc (.cells .own 0 [.nilIface, .int .i64 0])).upd (b := h3.n) hG3.n 1 (.cells .own 0 [errAV e, .int .i64 ((p + k : Nat) : Int)])
          simp (maxSteps := 1000000) (disch := first | omega | (simp only [AHeap.alloc_n, AHeap.upd_n, List.length_cons, List.length_nil, List.length_append] <;> omega) | fail) only [go_sem, reduceIte, Nat.reduceAdd, Nat.reduceEqDiff, Nat.reduceDiv, Nat.reduceMod, Nat.reducePow, Nat.reduceSub, Nat.reduceMul, Nat.reduceLeDiff, beq_self_eq_true, bne_self_eq_false, Int.reduceBEq, Int.reduceBNe, Int.reduceLE, Int.reduceLT, Int.reduceToNat, Int.reduceAdd, Int.reduceSub, hf3.old, k0, k5]
          refine num_spec (e := e) hG3' he1 he2 ?_
          intro h4 hf4
          have hG4 := hf4.gh hG3'.n hG3'
          have hn4 := hf4.n; try simp only [AHeap.alloc_n, AHeap.upd_n] at hn4
          simp (maxSteps := 1000000) (disch := first | omega | (simp only [AHeap.alloc_n, AHeap.upd_n, List.length_cons, List.length_nil, List.length_append] <;> omega) | fail) only [go_sem, reduceIte, Nat.reduceAdd, Nat.reduceEqDiff, Nat.reduceDiv, Nat.reduceMod, Nat.reducePow, Nat.reduceSub, Nat.reduceMul, Nat.reduceLeDiff, beq_self_eq_true, bne_self_eq_false, Int.reduceBEq, Int.reduceBNe, Int.reduceLE, Int.reduceLT, Int.reduceToNat, Int.reduceAdd, Int.reduceSub, hf4.old, hf3.old, k0, k5]
          refine num_spec (e := e) hG4 he1 he2 ?_
          intro h5 hf5
          have hn5 := hf5.n; try simp only [AHeap.alloc_n, AHeap.upd_n] at hn5
          have epk : (((p + k : Nat) : Int) != (p : Int) + (k : Int)) = false := by rw [Int.natCast_add]; exact bne_self_eq_false _
          simp (maxSteps := 1000000) (disch := first | omega | (simp only [AHeap.alloc_n, AHeap.upd_n, List.length_cons, List.length_nil, List.length_append] <;> omega) | fail) only [go_sem, reduceIte, Nat.reduceAdd, Nat.reduceEqDiff, Nat.reduceDiv, Nat.reduceMod, Nat.reducePow, Nat.reduceSub, Nat.reduceMul, Nat.reduceLeDiff, beq_self_eq_true, bne_self_eq_false, Int.reduceBEq, Int.reduceBNe, Int.reduceLE, Int.reduceLT, Int.reduceToNat, Int.reduceAdd, Int.reduceSub, hf5.old, hf4.old, hf3.old, k0, k5, hbl, epk]
          refine wp_loop (fun n a h' => a.tm.get 79 = some (.int .i64 0) ∧ a.tm.get 78 = some (.int .i64 0) ∧ a.df = []) ?_ 0 ?_
          · rintro n ⟨t, df⟩ h' ⟨k79, k78, hdf⟩
            simp only at k79 k78 hdf
            subst hdf
            simp (maxSteps := 1000000) (disch := first | omega | (simp only [AHeap.alloc_n, AHeap.upd_n, List.length_cons, List.length_nil, List.length_append] <;> omega) | fail) only [go_sem, reduceIte, Nat.reduceAdd, Nat.reduceEqDiff, Nat.reduceDiv, Nat.reduceMod, Nat.reducePow, Nat.reduceSub, Nat.reduceMul, Nat.reduceLeDiff, beq_self_eq_true, bne_self_eq_false, Int.reduceBEq, Int.reduceBNe, Int.reduceLE, Int.reduceLT, Int.reduceToNat, Int.reduceAdd, Int.reduceSub, k79, k78]
          · simp (maxSteps := 1000000) (disch := first | omega | (simp only [AHeap.alloc_n, AHeap.upd_n, List.length_cons, List.length_nil, List.length_append] <;> omega) | fail) only [go_sem, reduceIte, Nat.reduceAdd, Nat.reduceEqDiff, Nat.reduceDiv, Nat.reduceMod, Nat.reducePow, Nat.reduceSub, Nat.reduceMul, Nat.reduceLeDiff, beq_self_eq_true, bne_self_eq_false, Int.reduceBEq, Int.reduceBNe, Int.reduceLE, Int.reduceLT, Int.reduceToNat, Int.reduceAdd, Int.reduceSub]
        | ok ts =>
          rw [hts] at hmv herr
          simp only [moveE] at hmv
          intro h2 v2 hf2 hts2
          have hG2 := hf2.gh hG1.n hG1
          have hn2 := hf2.n; try simp only [AHeap.alloc_n, AHeap.upd_n] at hn2
          have hG2' := (hG2.alloc (.cells .own 0 [.nilIface, .int .i64 0])).upd (b := h2.n) hG2.n 1 (.cells .own 0 [.nilIface, .int .i64 0])
          simp (maxSteps := 1000000) (disch := first | omega | (simp only [AHeap.alloc_n, AHeap.upd_n, List.length_cons, List.length_nil, List.length_append] <;> omega) | fail) only [go_sem, reduceIte, Nat.reduceAdd, Nat.reduceEqDiff, Nat.reduceDiv, Nat.reduceMod, Nat.reducePow, Nat.reduceSub, Nat.reduceMul, Nat.reduceLeDiff, beq_self_eq_true, bne_self_eq_false, Int.reduceBEq, Int.reduceBNe, Int.reduceLE, Int.reduceLT, Int.reduceToNat, Int.reduceAdd, Int.reduceSub, k0, k5]
          refine tokens_spec hG2' (by rw [List.length_append]; omega) ?_
          rw [hmv]
          intro h3 v3 hf3 hts3
          have hG3 := hf3.gh hG2'.n hG2'
          have hn3 := hf3.n; try simp only [AHeap.alloc_n, AHeap.upd_n] at hn3
          have hlen2 := hts2.len
          have hlen3 := hts3.len
          rw [List.length_map] at hlen3
          simp (maxSteps := 1000000) (disch := first | omega | (simp only [AHeap.alloc_n, AHeap.upd_n, List.length_cons, List.length_nil, List.length_append] <;> omega) | fail) only [go_sem, reduceIte, Nat.reduceAdd, Nat.reduceEqDiff, Nat.reduceDiv, Nat.reduceMod, Nat.reducePow, Nat.reduceSub, Nat.reduceMul, Nat.reduceLeDiff, beq_self_eq_true, bne_self_eq_false, Int.reduceBEq, Int.reduceBNe, Int.reduceLE, Int.reduceLT, Int.reduceToNat, Int.reduceAdd, Int.reduceSub, hf3.old, k0, k5]
          refine num_nil ?_
          simp (maxSteps := 1000000) (disch := first | omega | (simp only [AHeap.alloc_n, AHeap.upd_n, List.length_cons, List.length_nil, List.length_append] <;> omega) | fail) only [go_sem, reduceIte, Nat.reduceAdd, Nat.reduceEqDiff, Nat.reduceDiv, Nat.reduceMod, Nat.reducePow, Nat.reduceSub, Nat.reduceMul, Nat.reduceLeDiff, beq_self_eq_true, bne_self_eq_false, Int.reduceBEq, Int.reduceBNe, Int.reduceLE, Int.reduceLT, Int.reduceToNat, Int.reduceAdd, Int.reduceSub, hf3.old, k0, k5]
          refine num_nil ?_
          simp (maxSteps := 1000000) (disch := first | omega | (simp only [AHeap.alloc_n, AHeap.upd_n, List.length_cons, List.length_nil, List.length_append] <;> omega) | fail) only [go_sem, reduceIte, Nat.reduceAdd, Nat.reduceEqDiff, Nat.reduceDiv, Nat.reduceMod, Nat.reducePow, Nat.reduceSub, Nat.reduceMul, Nat.reduceLeDiff, beq_self_eq_true, bne_self_eq_false, Int.reduceBEq, Int.reduceBNe, Int.reduceLE, Int.reduceLT, Int.reduceToNat, Int.reduceAdd, Int.reduceSub, hf3.old, k0, k5, hlen2, hlen3, eqT_nil]
          have hpos := tokens_pos hts
          have htl := tokens_len hts
          by_cases hne : ts = []
          · subst hne
            refine wp_loop (fun n a h' => a.tm.get 79 = some (.int .i64 0) ∧ a.tm.get 78 = some (.int .i64 0) ∧ a.df = []) ?_ 0 ?_
            · rintro n ⟨t, df⟩ h' ⟨k79, k78, hdf⟩
              simp only at k79 k78 hdf
              subst hdf
              simp (maxSteps := 1000000) (disch := first | omega | (simp only [AHeap.alloc_n, AHeap.upd_n, List.length_cons, List.length_nil, List.length_append] <;> omega) | fail) only [go_sem, reduceIte, Nat.reduceAdd, Nat.reduceEqDiff, Nat.reduceDiv, Nat.reduceMod, Nat.reducePow, Nat.reduceSub, Nat.reduceMul, Nat.reduceLeDiff, beq_self_eq_true, bne_self_eq_false, Int.reduceBEq, Int.reduceBNe, Int.reduceLE, Int.reduceLT, Int.reduceToNat, Int.reduceAdd, Int.reduceSub, k79, k78]
            · simp (maxSteps := 1000000) (disch := first | omega | (simp only [AHeap.alloc_n, AHeap.upd_n, List.length_cons, List.length_nil, List.length_append] <;> omega) | fail) only [go_sem, reduceIte, Nat.reduceAdd, Nat.reduceEqDiff, Nat.reduceDiv, Nat.reduceMod, Nat.reducePow, Nat.reduceSub, Nat.reduceMul, Nat.reduceLeDiff, beq_self_eq_true, bne_self_eq_false, Int.reduceBEq, Int.reduceBNe, Int.reduceLE, Int.reduceLT, Int.reduceToNat, Int.reduceAdd, Int.reduceSub]
          · have hlp : 0 < ts.length := List.length_pos_iff.2 hne
            obtain ⟨b2, ver2, rfl, hlo2, hb2, hc2⟩ := hts2.block hlp
            unfold TokSl at hts3
            rw [List.length_map] at hts3
            obtain ⟨b3, ver3, rfl, hlo3, hb3, hc3⟩ := hts3.block hlp
            simp only [AHeap.alloc_n, AHeap.upd_n] at hlo3
            have g2 : ((h3.alloc (.cells .own 0 [.nilIface, .int .i64 0])).upd h3.n 1 (.cells .own 0 [.nilIface, .int .i64 0])).get b2 = some ⟨ver2, .cells .own 5 (toksAV ts)⟩ := by simp (maxSteps := 1000000) (disch := first | omega | (simp only [AHeap.alloc_n, AHeap.upd_n, List.length_cons, List.length_nil, List.length_append] <;> omega) | fail) only [go_sem, reduceIte, Nat.reduceAdd, Nat.reduceEqDiff, Nat.reduceDiv, Nat.reduceMod, Nat.reducePow, Nat.reduceSub, Nat.reduceMul, Nat.reduceLeDiff, beq_self_eq_true, bne_self_eq_false, Int.reduceBEq, Int.reduceBNe, Int.reduceLE, Int.reduceLT, Int.reduceToNat, Int.reduceAdd, Int.reduceSub, hf3.old, hc2]
            have g3 : ((h3.alloc (.cells .own 0 [.nilIface, .int .i64 0])).upd h3.n 1 (.cells .own 0 [.nilIface, .int .i64 0])).get b3 = some ⟨ver3, .cells .own 5 (toksAV (ts.map (Tok.move k)))⟩ := by simp (maxSteps := 1000000) (disch := first | omega | (simp only [AHeap.alloc_n, AHeap.upd_n, List.length_cons, List.length_nil, List.length_append] <;> omega) | fail) only [go_sem, reduceIte, Nat.reduceAdd, Nat.reduceEqDiff, Nat.reduceDiv, Nat.reduceMod, Nat.reducePow, Nat.reduceSub, Nat.reduceMul, Nat.reduceLeDiff, beq_self_eq_true, bne_self_eq_false, Int.reduceBEq, Int.reduceBNe, Int.reduceLE, Int.reduceLT, Int.reduceToNat, Int.reduceAdd, Int.reduceSub, hc3]
            have hb23 : b2 ≠ b3 := by omega
            clear hc2 hc3 hlo2 hlo3 hts2 hts3 hG2' hG3 hf3 hf2 hG2 hmv
            generalize (h3.alloc (.cells .own 0 [.nilIface, .int .i64 0])).upd h3.n 1 (.cells .own 0 [.nilIface, .int .i64 0]) = H at g2 g3 ⊢
            refine wp_loop (fun n a h' => ∃ i ver, n = ts.length - i ∧ i ≤ ts.length ∧ h'.get b2 = some ⟨ver, .cells .own 5 (toksAV (half k ts i))⟩ ∧ h'.get b3 = some ⟨ver3, .cells .own 5 (toksAV (ts.map (Tok.move k)))⟩ ∧ a.tm.get 79 = some (.int .i64 (i : Int)) ∧ a.tm.get 78 = some (.int .i64 (ts.length : Int)) ∧ a.tm.get 5 = some (.str (blk k)) ∧ a.tm.get 7 = some (.slice b2 0 ts.length ts.length false) ∧ a.tm.get 9 = some (.slice b3 0 ts.length ts.length false) ∧ a.df = []) ?_ ts.length ?_
            · rintro n ⟨t, df⟩ h' ⟨i, ver, hn, hi, q2, q3, k79, k78, k5, k7, k9, hdf⟩
              simp only at k5 k7 k9 k79 k78 hdf
              subst hdf
              simp (maxSteps := 1000000) (disch := first | omega | (simp only [AHeap.alloc_n, AHeap.upd_n, List.length_cons, List.length_nil, List.length_append] <;> omega) | fail) only [go_sem, reduceIte, Nat.reduceAdd, Nat.reduceEqDiff, Nat.reduceDiv, Nat.reduceMod, Nat.reducePow, Nat.reduceSub, Nat.reduceMul, Nat.reduceLeDiff, beq_self_eq_true, bne_self_eq_false, Int.reduceBEq, Int.reduceBNe, Int.reduceLE, Int.reduceLT, Int.reduceToNat, Int.reduceAdd, Int.reduceSub, k79, k78]
              (first | refine condP_splitN (fun hc3 => ?_) (fun hc3 => ?_) | refine wantP_splitN (fun hc3 => ?_) (fun hc3 => ?_) | refine wantPD_splitN (fun hc3 => ?_) (fun hc3 => ?_) | refine condP_split (fun hc3 => ?_) (fun hc3 => ?_) | refine wantP_split (fun hc3 => ?_) (fun hc3 => ?_) | refine wantPD_split (fun hc3 => ?_) (fun hc3 => ?_))
              · have hil : i < ts.length := (by have := of_decide_eq_true hc3; omega)
                have hti : ts[i]? = some ts[i] := List.getElem?_eq_getElem hil
                have hp := hpos ts[i] (List.getElem_mem _)
                generalize ts[i] = tk at hti hp
                have x1 := toks_get (j := 4) (half_get (m := k) hti) (by decide)
                have x1' : (toksAV (half k ts i))[i * 5 + 4]? = some (.int .i64 (tk.pos : Int)) := x1
                have x2 := toks_pos (p := tk.pos + k) (half_get (m := k) hti)
                rw [show ({ tk with pos := tk.pos + k } : Tok) = tk.move k from rfl, half_set hti, Int.natCast_add] at x2
                have hmi : (ts.map (Tok.move k))[i]? = some (tk.move k) := by rw [List.getElem?_map, hti]; rfl
                have hhi : (half k ts (i + 1))[i]? = some (tk.move k) := by
                  rw [← half_set hti, List.getElem?_set_self]
                  have := (List.getElem?_eq_some_iff.1 (half_get (m := k) hti)).1
                  exact this
                have x3 := toks_row hhi
                have x4 := toks_row hmi
                have heq : eqT (.many [.int, .str, .int, .int, .int]) (.agg (tokAV (tk.move k)).cells) (.agg (tokAV (tk.move k)).cells) = some true := by simp [eqT, eqKs, eqK, tokAV, AV.cells]
                simp (maxSteps := 1000000) (disch := first | omega | (simp only [AHeap.alloc_n, AHeap.upd_n, List.length_cons, List.length_nil, List.length_append] <;> omega) | fail) only [go_sem, reduceIte, Nat.reduceAdd, Nat.reduceEqDiff, Nat.reduceDiv, Nat.reduceMod, Nat.reducePow, Nat.reduceSub, Nat.reduceMul, Nat.reduceLeDiff, beq_self_eq_true, bne_self_eq_false, Int.reduceBEq, Int.reduceBNe, Int.reduceLE, Int.reduceLT, Int.reduceToNat, Int.reduceAdd, Int.reduceSub, k5, k7, k9, k79, k78, q2, q3, x1', x2, hbl, x3, x4, heq]
                refine ⟨_, ?_, i + 1, _, rfl, by omega, rfl, ?_⟩
                · omega
                · rfl
              · simp (maxSteps := 1000000) (disch := first | omega | (simp only [AHeap.alloc_n, AHeap.upd_n, List.length_cons, List.length_nil, List.length_append] <;> omega) | fail) only [go_sem, reduceIte, Nat.reduceAdd, Nat.reduceEqDiff, Nat.reduceDiv, Nat.reduceMod, Nat.reducePow, Nat.reduceSub, Nat.reduceMul, Nat.reduceLeDiff, beq_self_eq_true, bne_self_eq_false, Int.reduceBEq, Int.reduceBNe, Int.reduceLE, Int.reduceLT, Int.reduceToNat, Int.reduceAdd, Int.reduceSub]
            · simp (maxSteps := 1000000) (disch := first | omega | (simp only [AHeap.alloc_n, AHeap.upd_n, List.length_cons, List.length_nil, List.length_append] <;> omega) | fail) only [go_sem, reduceIte, Nat.reduceAdd, Nat.reduceEqDiff, Nat.reduceDiv, Nat.reduceMod, Nat.reducePow, Nat.reduceSub, Nat.reduceMul, Nat.reduceLeDiff, beq_self_eq_true, bne_self_eq_false, Int.reduceBEq, Int.reduceBNe, Int.reduceLE, Int.reduceLT, Int.reduceToNat, Int.reduceAdd, Int.reduceSub]
              exact ⟨0, ver2, rfl, Nat.zero_le _, by rw [half_zero]; exact g2, g3, rfl, k5⟩
  · simp (maxSteps := 1000000) (disch := first | omega | (simp only [AHeap.alloc_n, AHeap.upd_n, List.length_cons, List.length_nil, List.length_append] <;> omega) | fail) only [go_sem, reduceIte, Nat.reduceAdd, Nat.reduceEqDiff, Nat.reduceDiv, Nat.reduceMod, Nat.reducePow, Nat.reduceSub, Nat.reduceMul, Nat.reduceLeDiff, beq_self_eq_true, bne_self_eq_false, Int.reduceBEq, Int.reduceBNe, Int.reduceLE, Int.reduceLT, Int.reduceToNat, Int.reduceAdd, Int.reduceSub]
    exact ⟨0, rfl, Nat.zero_le _, rfl, rfl⟩
end Go.Ev
