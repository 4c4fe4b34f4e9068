/- The statement on tokens' places. -/
import Derived.Test.YtccenddkgeglmaaDoorTK12
import Derived.Test.YtccenddkgeglmaaDoorL6
import Derived.Test.YtccenddkgeglmaaDoorTRw
set_option linter.all false
set_option linter.unusedVariables false
set_option linter.unusedSimpArgs false
namespace Go.Ev
open Go
set_option maxRecDepth 100000
set_option maxHeartbeats 4000000

theorem toks_get' {ts : List Tok} {i j : Nat} {t : Tok} (h : ts[i]? = some t) (hj : j < 5) : (toksAV ts)[i * 5 + j]? = ((tokAV t).cells)[j]? := flat_get (f := fun t => (tokAV t).cells) (fun _ => rfl) h hj
theorem toks_row' {ts : List Tok} {i : Nat} {t : Tok} (h : ts[i]? = some t) : row (toksAV ts) (i * 5) 5 = some (tokAV t).cells := flat_row (f := fun t => (tokAV t).cells) (fun _ => rfl) h

theorem flatT_snoc (ts : List Tok) (t : Tok) : flatT (ts ++ [t]) = flatT ts ++ 32 :: t.text := by simp [flatT]
theorem Sl.keep {es lo n : Nat} {h h' : AHeap} {v : AV} {cs : List AV} (s : Sl es lo h v n cs) (hn : h.n ≤ h'.n) (f : ∀ b, lo ≤ b → b < h.n → h'.get b = h.get b) : Sl es lo h' v n cs := by
  obtain ⟨hl, s⟩ := s
  refine ⟨hl, s.imp id ?_⟩
  rintro ⟨hp, b, ver, e, h1, h2, h3⟩
  exact ⟨hp, b, ver, e, h1, Nat.lt_of_lt_of_le h2 hn, by rw [f b h1 h2]; exact h3⟩
theorem back_law {s : Bs} (hlen : s.length < 2 ^ 61) {h : AHeap} (hG : GH h) : WF F 3 [.str s] h (fun r _ => r = .ret (.bool true)) := by
  have herr := tokens_err s
  refine WF.code F3 rfl ?_
  simp (maxSteps := 1000000) (disch := first | omega | (simp only [AHeap.alloc_n, AHeap.upd_n, List.length_cons, List.length_nil, List.length_append] <;> omega) | fail) only [go_sem, reduceIte, Nat.reduceAdd, Nat.reduceEqDiff, Nat.reduceDiv, Nat.reduceMod, Nat.reducePow, Nat.reduceSub, Nat.reduceMul, Nat.reduceLeDiff, beq_self_eq_true, bne_self_eq_false, Int.reduceBEq, Int.reduceBNe, Int.reduceLE, Int.reduceLT, Int.reduceToNat, Int.reduceAdd, Int.reduceSub]
  refine alive05 hG ?_
  intro h1 hf1
  have hG1 := hf1.gh hG.n hG
  simp (maxSteps := 1000000) (disch := first | omega | (simp only [AHeap.alloc_n, AHeap.upd_n, List.length_cons, List.length_nil, List.length_append] <;> omega) | fail) only [go_sem, reduceIte, Nat.reduceAdd, Nat.reduceEqDiff, Nat.reduceDiv, Nat.reduceMod, Nat.reducePow, Nat.reduceSub, Nat.reduceMul, Nat.reduceLeDiff, beq_self_eq_true, bne_self_eq_false, Int.reduceBEq, Int.reduceBNe, Int.reduceLE, Int.reduceLT, Int.reduceToNat, Int.reduceAdd, Int.reduceSub]
  refine tokens_spec hG1 (by omega) ?_
  cases hts : tokens s with
  | error x =>
    obtain ⟨e, p⟩ := x
    rw [hts] at herr
    obtain ⟨⟨he1, he2⟩, hp⟩ := herr
    intro h2 hf2
    simp (maxSteps := 1000000) (disch := first | omega | (simp only [AHeap.alloc_n, AHeap.upd_n, List.length_cons, List.length_nil, List.length_append] <;> omega) | fail) only [go_sem, reduceIte, Nat.reduceAdd, Nat.reduceEqDiff, Nat.reduceDiv, Nat.reduceMod, Nat.reducePow, Nat.reduceSub, Nat.reduceMul, Nat.reduceLeDiff, beq_self_eq_true, bne_self_eq_false, Int.reduceBEq, Int.reduceBNe, Int.reduceLE, Int.reduceLT, Int.reduceToNat, Int.reduceAdd, Int.reduceSub]
  | ok ts =>
    intro h2 v2 hf2 hts2
    have hG2 := hf2.gh hG1.n hG1
    have hn2 := hf2.n; try simp only [AHeap.alloc_n, AHeap.upd_n] at hn2
    have hlen2 := hts2.len
    have hcnt := tokens_len hts
    have hs8 : s.length ≤ 8192 := by
      rcases Nat.lt_or_ge 8192 s.length with q | q
      · simp [tokens, q] at hts
      · exact q
    have h0 : toksL s.length (s.length + 1) (skip (s.drop 0)) 0 = .ok ts := by
      have := hts
      rw [tokens, if_neg (by omega)] at this
      exact this
    have hback := tokens_back hts
    simp (maxSteps := 1000000) (disch := first | omega | (simp only [AHeap.alloc_n, AHeap.upd_n, List.length_cons, List.length_nil, List.length_append] <;> omega) | fail) only [go_sem, reduceIte, Nat.reduceAdd, Nat.reduceEqDiff, Nat.reduceDiv, Nat.reduceMod, Nat.reducePow, Nat.reduceSub, Nat.reduceMul, Nat.reduceLeDiff, beq_self_eq_true, bne_self_eq_false, Int.reduceBEq, Int.reduceBNe, Int.reduceLE, Int.reduceLT, Int.reduceToNat, Int.reduceAdd, Int.reduceSub, hlen2, eqT_nil]
    have htsH : TokSl h1.n ((h2.alloc (.cells .own 0 [.nilIface, .int .i64 0])).upd h2.n 1 (.cells .own 0 [.nilIface, .int .i64 0])) v2 ts := by
      exact hts2.keep (by simp (maxSteps := 1000000) (disch := first | omega | (simp only [AHeap.alloc_n, AHeap.upd_n, List.length_cons, List.length_nil, List.length_append] <;> omega) | fail) only [go_sem, reduceIte, Nat.reduceAdd, Nat.reduceEqDiff, Nat.reduceDiv, Nat.reduceMod, Nat.reducePow, Nat.reduceSub, Nat.reduceMul, Nat.reduceLeDiff, beq_self_eq_true, bne_self_eq_false, Int.reduceBEq, Int.reduceBNe, Int.reduceLE, Int.reduceLT, Int.reduceToNat, Int.reduceAdd, Int.reduceSub]; omega) fun b _ hb => by simp (maxSteps := 1000000) (disch := first | omega | (simp only [AHeap.alloc_n, AHeap.upd_n, List.length_cons, List.length_nil, List.length_append] <;> omega) | fail) only [go_sem, reduceIte, Nat.reduceAdd, Nat.reduceEqDiff, Nat.reduceDiv, Nat.reduceMod, Nat.reducePow, Nat.reduceSub, Nat.reduceMul, Nat.reduceLeDiff, beq_self_eq_true, bne_self_eq_false, Int.reduceBEq, Int.reduceBNe, Int.reduceLE, Int.reduceLT, Int.reduceToNat, Int.reduceAdd, Int.reduceSub]
    have hGH := (hG2.alloc (.cells .own 0 [.nilIface, .int .i64 0])).upd (b := h2.n) hG2.n 1 (.cells .own 0 [.nilIface, .int .i64 0])
    have hcH : ((h2.alloc (.cells .own 0 [.nilIface, .int .i64 0])).upd h2.n 1 (.cells .own 0 [.nilIface, .int .i64 0])).get h2.n = some ⟨1, .cells .own 0 [.nilIface, .int .i64 0]⟩ := by simp (maxSteps := 1000000) (disch := first | omega | (simp only [AHeap.alloc_n, AHeap.upd_n, List.length_cons, List.length_nil, List.length_append] <;> omega) | fail) only [go_sem, reduceIte, Nat.reduceAdd, Nat.reduceEqDiff, Nat.reduceDiv, Nat.reduceMod, Nat.reducePow, Nat.reduceSub, Nat.reduceMul, Nat.reduceLeDiff, beq_self_eq_true, bne_self_eq_false, Int.reduceBEq, Int.reduceBNe, Int.reduceLE, Int.reduceLT, Int.reduceToNat, Int.reduceAdd, Int.reduceSub]
    have hnH : h2.n < ((h2.alloc (.cells .own 0 [.nilIface, .int .i64 0])).upd h2.n 1 (.cells .own 0 [.nilIface, .int .i64 0])).n := by simp (maxSteps := 1000000) (disch := first | omega | (simp only [AHeap.alloc_n, AHeap.upd_n, List.length_cons, List.length_nil, List.length_append] <;> omega) | fail) only [go_sem, reduceIte, Nat.reduceAdd, Nat.reduceEqDiff, Nat.reduceDiv, Nat.reduceMod, Nat.reducePow, Nat.reduceSub, Nat.reduceMul, Nat.reduceLeDiff, beq_self_eq_true, bne_self_eq_false, Int.reduceBEq, Int.reduceBNe, Int.reduceLE, Int.reduceLT, Int.reduceToNat, Int.reduceAdd, Int.reduceSub]; omega
    have hvB : ∀ b o l c e, v2 = .slice b o l c e → b < h2.n := by
      rintro b o l c e rfl
      obtain ⟨_, ⟨_, q⟩ | ⟨_, b', _, q, _, q2, _⟩⟩ := hts2
      · cases q
      · cases q; exact q2
    generalize (h2.alloc (.cells .own 0 [.nilIface, .int .i64 0])).upd h2.n 1 (.cells .own 0 [.nilIface, .int .i64 0]) = H at htsH hGH hcH hnH ⊢
    generalize h2.n = B at hcH hnH hvB ⊢
    clear hts2 hG2 hf2 hn2 hG1 hf1 hG hts
    refine wp_loop (fun n a h' => ∃ i p f m : Nat, n = ts.length - i ∧ i ≤ ts.length ∧ p ≤ s.length ∧ toksL s.length f (skip (s.drop p)) m = .ok (ts.drop i) ∧ (flatT (ts.take i)).length ≤ p + i ∧ Fr H.n H h' ∧ a.tm.get 41 = some (.int .i64 (i : Int)) ∧ a.tm.get 40 = some (.int .i64 (ts.length : Int)) ∧ a.tm.get 39 = some v2 ∧ a.tm.get 5 = some (.int .i64 (p : Int)) ∧ a.tm.get 6 = some (.str (flatT (ts.take i))) ∧ a.tm.get 0 = some (.str s) ∧ a.tm.get 3 = some v2 ∧ a.tm.get 4 = some (.ptr B 0) ∧ a.df = []) ?_ ts.length ?_
    · rintro n ⟨t, df⟩ h' ⟨i, p, f, m, hn, hi, hp, htk, hfl, hfr, k41, k40, k39, k5, k6, k0, k3, k4, hdf⟩
      simp only at k0 k3 k4 k5 k6 k39 k40 k41 hdf
      subst hdf
      have hG' := hfr.gh hGH.n hGH
      have hn' := hfr.n; try simp only [AHeap.alloc_n, AHeap.upd_n] at hn'
      simp (maxSteps := 1000000) (disch := first | omega | (simp only [AHeap.alloc_n, AHeap.upd_n, List.length_cons, List.length_nil, List.length_append] <;> omega) | fail) only [go_sem, reduceIte, Nat.reduceAdd, Nat.reduceEqDiff, Nat.reduceDiv, Nat.reduceMod, Nat.reducePow, Nat.reduceSub, Nat.reduceMul, Nat.reduceLeDiff, beq_self_eq_true, bne_self_eq_false, Int.reduceBEq, Int.reduceBNe, Int.reduceLE, Int.reduceLT, Int.reduceToNat, Int.reduceAdd, Int.reduceSub, k40, k41]
      (first | refine condP_splitN (fun hlt => ?_) (fun hlt => ?_) | refine wantP_splitN (fun hlt => ?_) (fun hlt => ?_) | refine wantPD_splitN (fun hlt => ?_) (fun hlt => ?_) | refine condP_split (fun hlt => ?_) (fun hlt => ?_) | refine wantP_split (fun hlt => ?_) (fun hlt => ?_) | refine wantPD_split (fun hlt => ?_) (fun hlt => ?_))
      · have hil : i < ts.length := (by have := of_decide_eq_true hlt; omega)
        obtain ⟨b2, ver2, rfl, hlo2, hb2, hc2⟩ := htsH.block (by omega)
        have hc2' : h'.get b2 = some ⟨ver2, .cells .own 5 (toksAV ts)⟩ := by rw [hfr.all hb2]; exact hc2
        have hti : ts[i]? = some ts[i] := List.getElem?_eq_getElem hil
        have hdi : ts.drop i = ts[i] :: ts.drop (i + 1) := List.drop_eq_getElem_cons hil
        have htki : ts.take (i + 1) = ts.take i ++ [ts[i]] := List.take_succ_eq_append_getElem hil
        rw [hdi] at htk
        generalize ts[i] = tk at hti hdi htki htk
        obtain ⟨g1, g2, g3, g4, g5, f', g6⟩ := toks_step rfl hp htk
        have hrow : row (toksAV ts) (i * 5) 5 = some [.int .i64 (tk.kind : Int), .str tk.text, .int .i64 (tk.n : Int), .int .u64 (tk.bits : Int), .int .i64 (tk.pos : Int)] := toks_row' hti
        have d1 : decide ((tk.pos : Int) < (p : Int)) = false := decide_eq_false (by omega)
        have d2 : decide ((tk.pos : Int) + (tk.text.length : Int) > (s.length : Int)) = false := decide_eq_false (by omega)
        have c1 : bnd (some (.int .i64 ((tk.pos : Int) + (tk.text.length : Int)))) s.length s.length = some (tk.pos + tk.text.length) := bnd_num (i := tk.pos + tk.text.length) g2
        have c2 : bnd (some (.int .i64 (tk.pos : Int))) 0 (tk.pos + tk.text.length) = some tk.pos := bnd_num (by omega)
        have c3 : (s.drop tk.pos).take (tk.pos + tk.text.length - tk.pos) = tk.text := by rw [Nat.add_sub_cancel_left]; exact g3
        have c4 : (tk.text == ([] : Bs)) = false := beq_eq_false_iff_ne.2 g4
        have c5 : bnd (some (.int .i64 (tk.pos : Int))) s.length s.length = some tk.pos := bnd_num (by omega)
        have c6 : bnd (some (.int .i64 (p : Int))) 0 tk.pos = some p := bnd_num g1
        have hnil := tokens_nil (a := (s.drop p).take (tk.pos - p)) (by rw [List.length_take]; omega) g5
        simp (maxSteps := 1000000) (disch := first | omega | (simp only [AHeap.alloc_n, AHeap.upd_n, List.length_cons, List.length_nil, List.length_append] <;> omega) | fail) only [go_sem, reduceIte, Nat.reduceAdd, Nat.reduceEqDiff, Nat.reduceDiv, Nat.reduceMod, Nat.reducePow, Nat.reduceSub, Nat.reduceMul, Nat.reduceLeDiff, beq_self_eq_true, bne_self_eq_false, Int.reduceBEq, Int.reduceBNe, Int.reduceLE, Int.reduceLT, Int.reduceToNat, Int.reduceAdd, Int.reduceSub, k0, k5, k6, k39, k40, k41, hc2', hrow, d1, d2, c1, c2, c3, c4, c5, c6]
        have hG2 := (hG'.alloc (.cells .own 0 [.int .i64 0, .str [], .int .i64 0, .int .u64 0, .int .i64 0])).upd (b := h'.n) hG'.n 1 (.cells .own 0 [.int .i64 (tk.kind : Int), .str tk.text, .int .i64 (tk.n : Int), .int .u64 (tk.bits : Int), .int .i64 (tk.pos : Int)])
        refine tokens_spec hG2 (by rw [List.length_take]; omega) ?_
        rw [hnil]
        intro h3 v3 hf3 hts3
        have hn3 := hf3.n; try simp only [AHeap.alloc_n, AHeap.upd_n] at hn3
        have hv3 : v3 = .nilSlice := by
          obtain ⟨_, ⟨_, e⟩ | ⟨q, _⟩⟩ := hts3
          · exact e
          · simp at q
        subst hv3
        simp (maxSteps := 1000000) (disch := first | omega | (simp only [AHeap.alloc_n, AHeap.upd_n, List.length_cons, List.length_nil, List.length_append] <;> omega) | fail) only [go_sem, reduceIte, Nat.reduceAdd, Nat.reduceEqDiff, Nat.reduceDiv, Nat.reduceMod, Nat.reducePow, Nat.reduceSub, Nat.reduceMul, Nat.reduceLeDiff, beq_self_eq_true, bne_self_eq_false, Int.reduceBEq, Int.reduceBNe, Int.reduceLE, Int.reduceLT, Int.reduceToNat, Int.reduceAdd, Int.reduceSub, hf3.old, k0, k5, k6, k39, k40, k41, eqT_nil]
        refine ⟨_, ?_, i + 1, tk.pos + tk.text.length, f', m + 1, rfl, by omega, g2, g6, ?_, ?_, rfl, rfl, ?_, k3, k4⟩
        · omega
        · rw [htki, flatT_snoc, List.length_append, List.length_cons]; omega
        · exact ⟨by simp (maxSteps := 1000000) (disch := first | omega | (simp only [AHeap.alloc_n, AHeap.upd_n, List.length_cons, List.length_nil, List.length_append] <;> omega) | fail) only [go_sem, reduceIte, Nat.reduceAdd, Nat.reduceEqDiff, Nat.reduceDiv, Nat.reduceMod, Nat.reducePow, Nat.reduceSub, Nat.reduceMul, Nat.reduceLeDiff, beq_self_eq_true, bne_self_eq_false, Int.reduceBEq, Int.reduceBNe, Int.reduceLE, Int.reduceLT, Int.reduceToNat, Int.reduceAdd, Int.reduceSub]; omega, fun b hb _ => by simp (maxSteps := 1000000) (disch := first | omega | (simp only [AHeap.alloc_n, AHeap.upd_n, List.length_cons, List.length_nil, List.length_append] <;> omega) | fail) only [go_sem, reduceIte, Nat.reduceAdd, Nat.reduceEqDiff, Nat.reduceDiv, Nat.reduceMod, Nat.reducePow, Nat.reduceSub, Nat.reduceMul, Nat.reduceLeDiff, beq_self_eq_true, bne_self_eq_false, Int.reduceBEq, Int.reduceBNe, Int.reduceLE, Int.reduceLT, Int.reduceToNat, Int.reduceAdd, Int.reduceSub, hf3.old, hfr.old]⟩
        · rw [htki, flatT_snoc]; rfl
      · have hil : i = ts.length := by have := of_decide_eq_false hlt; omega
        subst hil
        rw [List.take_length] at k6 hfl
        clear htk k41 k40 k39 k5
        simp (maxSteps := 1000000) (disch := first | omega | (simp only [AHeap.alloc_n, AHeap.upd_n, List.length_cons, List.length_nil, List.length_append] <;> omega) | fail) only [go_sem, reduceIte, Nat.reduceAdd, Nat.reduceEqDiff, Nat.reduceDiv, Nat.reduceMod, Nat.reducePow, Nat.reduceSub, Nat.reduceMul, Nat.reduceLeDiff, beq_self_eq_true, bne_self_eq_false, Int.reduceBEq, Int.reduceBNe, Int.reduceLE, Int.reduceLT, Int.reduceToNat, Int.reduceAdd, Int.reduceSub, k6]
        (first | refine condP_splitN (fun hbig => ?_) (fun hbig => ?_) | refine wantP_splitN (fun hbig => ?_) (fun hbig => ?_) | refine wantPD_splitN (fun hbig => ?_) (fun hbig => ?_) | refine condP_split (fun hbig => ?_) (fun hbig => ?_) | refine wantP_split (fun hbig => ?_) (fun hbig => ?_) | refine wantPD_split (fun hbig => ?_) (fun hbig => ?_))
        · simp (maxSteps := 1000000) (disch := first | omega | (simp only [AHeap.alloc_n, AHeap.upd_n, List.length_cons, List.length_nil, List.length_append] <;> omega) | fail) only [go_sem, reduceIte, Nat.reduceAdd, Nat.reduceEqDiff, Nat.reduceDiv, Nat.reduceMod, Nat.reducePow, Nat.reduceSub, Nat.reduceMul, Nat.reduceLeDiff, beq_self_eq_true, bne_self_eq_false, Int.reduceBEq, Int.reduceBNe, Int.reduceLE, Int.reduceLT, Int.reduceToNat, Int.reduceAdd, Int.reduceSub]
        · have hb8 : ¬ 8192 < (flatT ts).length := (by have := of_decide_eq_false hbig; omega)
          obtain ⟨us, hu1, hu2, hu3⟩ := hback (by omega)
          have hcB : h'.get B = some ⟨1, .cells .own 0 [.nilIface, .int .i64 0]⟩ := by rw [hfr.all hnH]; exact hcH
          simp (maxSteps := 1000000) (disch := first | omega | (simp only [AHeap.alloc_n, AHeap.upd_n, List.length_cons, List.length_nil, List.length_append] <;> omega) | fail) only [go_sem, reduceIte, Nat.reduceAdd, Nat.reduceEqDiff, Nat.reduceDiv, Nat.reduceMod, Nat.reducePow, Nat.reduceSub, Nat.reduceMul, Nat.reduceLeDiff, beq_self_eq_true, bne_self_eq_false, Int.reduceBEq, Int.reduceBNe, Int.reduceLE, Int.reduceLT, Int.reduceToNat, Int.reduceAdd, Int.reduceSub, k6]
          refine tokens_spec hG' (by omega) ?_
          rw [hu1]
          intro h4 v4 hf4 hts4
          have hn4 := hf4.n; try simp only [AHeap.alloc_n, AHeap.upd_n] at hn4
          have hl4 := hts4.len
          have hl2 := htsH.len
          have hcB4 : h4.get B = some ⟨1, .cells .own 0 [.nilIface, .int .i64 0]⟩ := by rw [hf4.all (by omega)]; exact hcB
          rw [hu2] at hl4
          simp (maxSteps := 1000000) (disch := first | omega | (simp only [AHeap.alloc_n, AHeap.upd_n, List.length_cons, List.length_nil, List.length_append] <;> omega) | fail) only [go_sem, reduceIte, Nat.reduceAdd, Nat.reduceEqDiff, Nat.reduceDiv, Nat.reduceMod, Nat.reducePow, Nat.reduceSub, Nat.reduceMul, Nat.reduceLeDiff, beq_self_eq_true, bne_self_eq_false, Int.reduceBEq, Int.reduceBNe, Int.reduceLE, Int.reduceLT, Int.reduceToNat, Int.reduceAdd, Int.reduceSub, k3, k4, hcB4, hl4, hl2, eqT_nil]
          have hH4 : Fr h4.n h4 h4 := Fr.refl _ _
          refine wp_loop (fun n a h5 => ∃ i : Nat, n = ts.length - i ∧ i ≤ ts.length ∧ Fr h4.n (h4.upd B 2 (.cells .own 0 [.nilIface, .int .i64 0])) h5 ∧ a.tm.get 129 = some (.int .i64 (i : Int)) ∧ a.tm.get 128 = some (.int .i64 (ts.length : Int)) ∧ a.tm.get 127 = some v4 ∧ a.tm.get 3 = some v2 ∧ a.df = []) ?_ ts.length ?_
          · rintro n ⟨t, df⟩ h5 ⟨i, hn, hi, hf5, k129, k128, k127, k3, hdf⟩
            simp only at k3 k127 k128 k129 hdf
            subst hdf
            have hn5 := hf5.n; try simp only [AHeap.alloc_n, AHeap.upd_n] at hn5
            simp (maxSteps := 1000000) (disch := first | omega | (simp only [AHeap.alloc_n, AHeap.upd_n, List.length_cons, List.length_nil, List.length_append] <;> omega) | fail) only [go_sem, reduceIte, Nat.reduceAdd, Nat.reduceEqDiff, Nat.reduceDiv, Nat.reduceMod, Nat.reducePow, Nat.reduceSub, Nat.reduceMul, Nat.reduceLeDiff, beq_self_eq_true, bne_self_eq_false, Int.reduceBEq, Int.reduceBNe, Int.reduceLE, Int.reduceLT, Int.reduceToNat, Int.reduceAdd, Int.reduceSub, k128, k129]
            (first | refine condP_splitN (fun hlt => ?_) (fun hlt => ?_) | refine wantP_splitN (fun hlt => ?_) (fun hlt => ?_) | refine wantPD_splitN (fun hlt => ?_) (fun hlt => ?_) | refine condP_split (fun hlt => ?_) (fun hlt => ?_) | refine wantP_split (fun hlt => ?_) (fun hlt => ?_) | refine wantPD_split (fun hlt => ?_) (fun hlt => ?_))
            · have hil : i < ts.length := (by have := of_decide_eq_true hlt; omega)
              have hul : i < us.length := by omega
              obtain ⟨b2, ver2, rfl, hlo2, hb2, hc2⟩ := htsH.block (by omega)
              have hb2B : b2 < B := hvB _ _ _ _ _ rfl
              obtain ⟨b4, ver4, e4, hlo4, hb4, hc4⟩ := hts4.block (by omega)
              rw [hu2] at e4
              subst e4
              have q2 : h5.get b2 = some ⟨ver2, .cells .own 5 (toksAV ts)⟩ := by
                rw [hf5.old b2 (by simp only [AHeap.upd_n]; omega) (by omega), AHeap.get_upd, if_neg (by omega), hf4.all (by omega), hfr.all hb2]; exact hc2
              have q4 : h5.get b4 = some ⟨ver4, .cells .own 5 (toksAV us)⟩ := by
                rw [hf5.old b4 (by simp only [AHeap.upd_n]; omega) (by omega), AHeap.get_upd, if_neg (by omega)]; exact hc4
              have hti : ts[i]? = some ts[i] := List.getElem?_eq_getElem hil
              have hui : us[i]? = some us[i] := List.getElem?_eq_getElem hul
              generalize ts[i] = tk at hti
              generalize us[i] = uk at hui
              have hu := hu3 i tk uk hti hui
              obtain ⟨kk, xx, nn, bb, pp⟩ := tk
              obtain ⟨kk', xx', nn', bb', pp'⟩ := uk
              simp only [Tok.mk.injEq, and_true] at hu
              obtain ⟨rfl, rfl, rfl, rfl⟩ := hu
              have r2 : row (toksAV ts) (i * 5) 5 = some [.int .i64 (kk' : Int), .str xx', .int .i64 (nn' : Int), .int .u64 (bb' : Int), .int .i64 (pp : Int)] := toks_row' hti
              have r4 : row (toksAV us) (i * 5) 5 = some [.int .i64 (kk' : Int), .str xx', .int .i64 (nn' : Int), .int .u64 (bb' : Int), .int .i64 (pp' : Int)] := toks_row' hui
              have g2 : (toksAV ts)[i * 5 + 4]? = some (.int .i64 (pp : Int)) := toks_get' (j := 4) hti (by decide)
              simp (maxSteps := 1000000) (disch := first | omega | (simp only [AHeap.alloc_n, AHeap.upd_n, List.length_cons, List.length_nil, List.length_append] <;> omega) | fail) only [go_sem, reduceIte, Nat.reduceAdd, Nat.reduceEqDiff, Nat.reduceDiv, Nat.reduceMod, Nat.reducePow, Nat.reduceSub, Nat.reduceMul, Nat.reduceLeDiff, beq_self_eq_true, bne_self_eq_false, Int.reduceBEq, Int.reduceBNe, Int.reduceLE, Int.reduceLT, Int.reduceToNat, Int.reduceAdd, Int.reduceSub, k3, k127, k128, k129, q2, q4, r2, r4, g2, eqT, eqKs, eqK]
              refine ⟨_, ?_, i + 1, rfl, by omega, ?_, rfl⟩
              · omega
              · exact ⟨by (first | omega | (simp only [AHeap.alloc_n, AHeap.upd_n]; omega)), fun b hb hne => by (try simp only [AHeap.alloc_n, AHeap.upd_n] at hb hne); simp (maxSteps := 1000000) (disch := first | omega | (simp only [AHeap.alloc_n, AHeap.upd_n, List.length_cons, List.length_nil, List.length_append] <;> omega) | fail) only [go_sem, reduceIte, Nat.reduceAdd, Nat.reduceEqDiff, Nat.reduceDiv, Nat.reduceMod, Nat.reducePow, Nat.reduceSub, Nat.reduceMul, Nat.reduceLeDiff, beq_self_eq_true, bne_self_eq_false, Int.reduceBEq, Int.reduceBNe, Int.reduceLE, Int.reduceLT, Int.reduceToNat, Int.reduceAdd, Int.reduceSub, hf5.old]⟩
            · simp (maxSteps := 1000000) (disch := first | omega | (simp only [AHeap.alloc_n, AHeap.upd_n, List.length_cons, List.length_nil, List.length_append] <;> omega) | fail) only [go_sem, reduceIte, Nat.reduceAdd, Nat.reduceEqDiff, Nat.reduceDiv, Nat.reduceMod, Nat.reducePow, Nat.reduceSub, Nat.reduceMul, Nat.reduceLeDiff, beq_self_eq_true, bne_self_eq_false, Int.reduceBEq, Int.reduceBNe, Int.reduceLE, Int.reduceLT, Int.reduceToNat, Int.reduceAdd, Int.reduceSub]
          · simp (maxSteps := 1000000) (disch := first | omega | (simp only [AHeap.alloc_n, AHeap.upd_n, List.length_cons, List.length_nil, List.length_append] <;> omega) | fail) only [go_sem, reduceIte, Nat.reduceAdd, Nat.reduceEqDiff, Nat.reduceDiv, Nat.reduceMod, Nat.reducePow, Nat.reduceSub, Nat.reduceMul, Nat.reduceLeDiff, beq_self_eq_true, bne_self_eq_false, Int.reduceBEq, Int.reduceBNe, Int.reduceLE, Int.reduceLT, Int.reduceToNat, Int.reduceAdd, Int.reduceSub]
            exact ⟨0, rfl, Nat.zero_le _, Fr.refl _ _, rfl, k3⟩
    · simp (maxSteps := 1000000) (disch := first | omega | (simp only [AHeap.alloc_n, AHeap.upd_n, List.length_cons, List.length_nil, List.length_append] <;> omega) | fail) only [go_sem, reduceIte, Nat.reduceAdd, Nat.reduceEqDiff, Nat.reduceDiv, Nat.reduceMod, Nat.reducePow, Nat.reduceSub, Nat.reduceMul, Nat.reduceLeDiff, beq_self_eq_true, bne_self_eq_false, Int.reduceBEq, Int.reduceBNe, Int.reduceLE, Int.reduceLT, Int.reduceToNat, Int.reduceAdd, Int.reduceSub]
      exact ⟨0, 0, _, 0, rfl, Nat.zero_le _, Nat.zero_le _, h0, by simp [flatT], Fr.refl _ _, rfl, rfl, rfl⟩
end Go.Ev
