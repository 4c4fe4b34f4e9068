/- The lexer's numbers. -/
import Derived.Test.YtccenddkgeglmaaDoorBK4
import Derived.Test.YtccenddkgeglmaaDoorL2
set_option linter.all false
set_option linter.unusedVariables false
set_option linter.unusedSimpArgs false
namespace Go.Ev
open Go
set_option maxRecDepth 100000
set_option maxHeartbeats 4000000

theorem decVal_succ {t : Bs} {i : Nat} {c : UInt8} (h : t[i]? = some c) : decVal (t.take (i + 1)) = 10 * decVal (t.take i) + (c.toNat - 48) := by
  have e : t.take (i + 1) = t.take i ++ [c] := by
    obtain ⟨hl, hc⟩ := List.getElem?_eq_some_iff.1 h
    rw [List.take_succ_eq_append_getElem hl, hc]
  simp only [decVal, e, List.foldl_append, List.foldl_cons, List.foldl_nil]

theorem numRest_suf (l : Bs) : numRest l <:+ l := by
  unfold numRest
  split
  · exact List.drop_suffix 1 l
  · exact dropWhile_suf _ _
theorem numText_len {l : Bs} (hl : l ≠ []) : (numText l).length ≤ l.length := by
  unfold numText
  split
  · cases l with
    | nil => exact absurd rfl hl
    | cons c l => simp
  · exact (List.takeWhile_prefix _).length_le
theorem numText_digits {l : Bs} {i : Nat} {c : UInt8} (h : (numText l)[i]? = some c) : 48 ≤ c.toNat ∧ c.toNat ≤ 57 := by
  have hm := List.mem_of_getElem? h
  unfold numText at hm
  split at hm
  · simp at hm; subst hm; decide
  · have := List.all_eq_true.1 (List.all_takeWhile (p := isDigit) (l := l)) c hm
    simpa [isDigit] using this

/-- What is known where a reader stands. -/
theorem RdL.pos {h : AHeap} {r : Nat} {s l : Bs} (hrd : RdL h r s l) : ∃ p ver, s.length - l.length = p ∧ p + l.length = s.length ∧ h.get r = some ⟨ver, .cells .own 0 [.str s, .int .i64 (p : Int)]⟩ ∧ s.drop p = l ∧ s[p]? = l[0]? := by
  obtain ⟨hsuf, ver, hr⟩ := hrd
  have hl := suf_len hsuf
  have hd := suf_drop hsuf
  refine ⟨_, ver, rfl, by omega, hr, hd, ?_⟩
  have := congrArg (fun l => l[0]?) hd
  simpa using this

theorem number_spec {r : Nat} {s l : Bs} {h : AHeap} (hG : GH h) (hr0 : 18 + 17 ≤ r) (hrn : r < h.n) (hbig : s.length < 2 ^ 62) (hrd : RdL h r s l) (hne : l ≠ []) {Q : QR} (hQ : TokQ r s h Q (numTok s.length l)) : WF F 58 [.ptr r 0] h Q := by
  have htl := numText_len hne
  obtain ⟨c, l0, hcl⟩ : ∃ c l0, l = c :: l0 := by cases l with | nil => exact absurd rfl hne | cons c l => exact ⟨c, l, rfl⟩
  rw [numTok_eq] at hQ
  obtain ⟨p, ver, hp, hpl, hr, hd, hc⟩ := hrd.pos
  rw [hp] at hQ
  rw [show l[0]? = some c by rw [hcl]; rfl] at hc
  have hlt : p < s.length := by have := congrArg List.length hcl; simp only [List.length_cons] at this; omega
  refine WF.code F58 rfl ?_
  simp (maxSteps := 9999999) (disch := first | omega | (simp only [hN] <;> omega) | fail) only [go_sem, simprocAttr, hr, hc]
  refine cond_cut (fun a h' => ∃ t, a = ⟨t, []⟩ ∧ t.get 0 = some (.ptr r 0) ∧ t.get 2 = some (.ptr h.n 0) ∧ t.get 3 = some (.ptr (h.n + 1) 0) ∧ (∃ ver, h'.get (h.n + 1) = some ⟨ver, .cells .own 0 [.int .i64 3, .str (numText l), .int .i64 0, .int .u64 0, .int .i64 (p : Int)]⟩) ∧ (∃ ver, h'.get h.n = some ⟨ver, .cells .own 0 [.int .i64 0, .str [], .int .i64 0, .int .u64 0, .int .i64 0]⟩) ∧ RdL h' r s (numRest l) ∧ Fr r h h' ∧ h.n + 2 ≤ h'.n) ?_ ?_
  · (first | refine condP_splitN (fun hz => ?_) (fun hz => ?_) | refine wantP_splitN (fun hz => ?_) (fun hz => ?_) | refine wantPD_splitN (fun hz => ?_) (fun hz => ?_) | refine condP_split (fun hz => ?_) (fun hz => ?_) | refine wantP_split (fun hz => ?_) (fun hz => ?_) | refine wantPD_split (fun hz => ?_) (fun hz => ?_))
    · have hz' : numZero l = true := by
        have : (c.toNat : Int) = 48 := by simpa using hz
        rw [hcl]; simp only [numZero, decide_eq_true_eq]; omega
      simp (maxSteps := 9999999) (disch := first | omega | (simp only [hN] <;> omega) | fail) only [go_sem, simprocAttr, hr]
      refine ⟨_, rfl, ?_⟩
      simp (maxSteps := 9999999) (disch := first | omega | (simp only [hN] <;> omega) | fail) only [go_sem, simprocAttr]
      simp only [numText, numRest, hz', if_true]
      refine ⟨⟨_, rfl⟩, ⟨_, rfl⟩, ⟨(List.drop_suffix 1 _).trans hrd.1, ver + 1, ?_⟩, ⟨by (first | omega | (simp only [AHeap.alloc_n, AHeap.upd_n]; omega)), fun b hb hne => by (try simp only [AHeap.alloc_n, AHeap.upd_n] at hb hne); simp (maxSteps := 9999999) (disch := first | omega | (simp only [hN] <;> omega) | fail) only [go_sem, simprocAttr]⟩, by omega⟩
      simp (maxSteps := 9999999) (disch := first | omega | (simp only [hN] <;> omega) | fail) only [go_sem, simprocAttr]
      have e : s.length - (l.drop 1).length = p + 1 := by rw [List.length_drop]; omega
      rw [e]
      rfl
    · have hz' : numZero l = false := by
        have : ¬ (c.toNat : Int) = 48 := by simpa using hz
        rw [hcl]; simp only [numZero, decide_eq_false_iff_not]; omega
      simp (maxSteps := 9999999) (disch := first | omega | (simp only [hN] <;> omega) | fail) only [go_sem, simprocAttr]
      refine whileL hbig digit_spec (hrd.of (by simp (maxSteps := 9999999) (disch := first | omega | (simp only [hN] <;> omega) | fail) only [go_sem, simprocAttr])) ?_
      intro h1 hrd1 hf1
      have hn1 := hf1.n; try simp only [AHeap.alloc_n, AHeap.upd_n] at hn1
      simp (maxSteps := 9999999) (disch := first | omega | (simp only [hN] <;> omega) | fail) only [go_sem, simprocAttr, hf1.old]
      refine ⟨_, rfl, ?_⟩
      simp (maxSteps := 9999999) (disch := first | omega | (simp only [hN] <;> omega) | fail) only [go_sem, simprocAttr, hf1.old]
      simp only [numText, numRest, hz', if_false, Bool.false_eq_true]
      refine ⟨⟨_, rfl⟩, ⟨_, rfl⟩, hrd1.of (by simp (maxSteps := 9999999) (disch := first | omega | (simp only [hN] <;> omega) | fail) only [go_sem, simprocAttr]), ⟨by (first | omega | (simp only [AHeap.alloc_n, AHeap.upd_n]; omega)), fun b hb hne => by (try simp only [AHeap.alloc_n, AHeap.upd_n] at hb hne); simp (maxSteps := 9999999) (disch := first | omega | (simp only [hN] <;> omega) | fail) only [go_sem, simprocAttr, hf1.old]⟩, by omega⟩
  · rintro a h1 ⟨t, rfl, g0, g2, g3, ⟨v3, hb3⟩, ⟨v2, hb2⟩, hrd1, hf1, hn1⟩
    simp (maxSteps := 9999999) (disch := first | omega | (simp only [hN] <;> omega) | fail) only [go_sem, simprocAttr, g0, g2, g3, hb3]
    refine wp_loop (fun n a h2 => ∃ i ver ov N, n = (numText l).length - i ∧ i ≤ (numText l).length ∧ a.tm.get 4 = some (.bool ov) ∧ h2.get (h.n + 1) = some ⟨ver, .cells .own 0 [.int .i64 3, .str (numText l), .int .i64 N, .int .u64 0, .int .i64 (p : Int)]⟩ ∧ a.tm.get 36 = some (.int .i64 (i : Int)) ∧ (Fr (h.n + 1) h1 h2 ∧ h2.n = h1.n) ∧ ov = decide (2 ^ 63 ≤ decVal ((numText l).take i)) ∧ (ov = false → N = (decVal ((numText l).take i) : Nat)) ∧ a.tm.get 0 = some (.ptr r 0) ∧ a.tm.get 2 = some (.ptr h.n 0) ∧ a.tm.get 3 = some (.ptr (h.n + 1) 0) ∧ a.tm.get 35 = some (.int .i64 ((numText l).length : Int)) ∧ a.df = []) ?_ (numText l).length ?_
    · rintro n ⟨t, df⟩ h2 ⟨i, ver, ov, N, hn, hi, k4, hb, k36, ⟨hf2, hn2⟩, hov, hN, k0, k2, k3, k35, hdf⟩
      simp only at k0 k2 k3 k4 k35 k36 hdf
      subst hdf
      simp (maxSteps := 9999999) (disch := first | omega | (simp only [hN] <;> omega) | fail) only [go_sem, simprocAttr, k0, k2, k3, k4, k35, k36]
      (first | refine condP_splitN (fun hlt => ?_) (fun hlt => ?_) | refine wantP_splitN (fun hlt => ?_) (fun hlt => ?_) | refine wantPD_splitN (fun hlt => ?_) (fun hlt => ?_) | refine condP_split (fun hlt => ?_) (fun hlt => ?_) | refine wantP_split (fun hlt => ?_) (fun hlt => ?_) | refine wantPD_split (fun hlt => ?_) (fun hlt => ?_))
      · have hlt' : i < (numText l).length := (by have := of_decide_eq_true hlt; omega)
        have hti : (numText l)[i]? = some (numText l)[i] := List.getElem?_eq_getElem hlt'
        have hdig := numText_digits hti
        have hv := decVal_succ hti
        generalize (numText l)[i] = c at hti hdig hv
        simp (maxSteps := 9999999) (disch := first | omega | (simp only [hN] <;> omega) | fail) only [go_sem, simprocAttr, k0, k2, k3, k4, k35, k36, hb, hti]
        (first | refine condP_splitN (fun ho => ?_) (fun ho => ?_) | refine wantP_splitN (fun ho => ?_) (fun ho => ?_) | refine wantPD_splitN (fun ho => ?_) (fun ho => ?_) | refine condP_split (fun ho => ?_) (fun ho => ?_) | refine wantP_split (fun ho => ?_) (fun ho => ?_) | refine wantPD_split (fun ho => ?_) (fun ho => ?_))
        · have hN' := hN ho
          subst hN'
          rw [ho] at hov
          have hV : decVal ((numText l).take i) < 2 ^ 63 := (by have := of_decide_eq_false (hov.symm); omega)
          generalize decVal ((numText l).take i) = V at *
          simp (maxSteps := 9999999) (disch := first | omega | (simp only [hN] <;> omega) | fail) only [go_sem, simprocAttr, k0, k2, k3, k4, k35, k36, hb, hti, ho]
          refine ⟨_, ?_, i + 1, _, _, _, rfl, by omega, rfl, rfl, rfl, ⟨hf2.upd' .., by first | omega | (simp only [AHeap.upd_n]; omega)⟩, ?_⟩
          · omega
          · rw [hv]
            refine ⟨decide_eq_decide.2 (by omega), fun hh => ?_⟩
            have := of_decide_eq_false hh
            simp (maxSteps := 9999999) (disch := first | omega | (simp only [hN] <;> omega) | fail) only [go_sem, simprocAttr]
            omega
        · rw [ho] at hov
          have hV : 2 ^ 63 ≤ decVal ((numText l).take i) := (by have := of_decide_eq_true (hov.symm); omega)
          generalize decVal ((numText l).take i) = V at *
          simp (maxSteps := 9999999) (disch := first | omega | (simp only [hN] <;> omega) | fail) only [go_sem, simprocAttr, k0, k2, k3, k4, k35, k36, hb, hti, ho]
          refine ⟨_, ?_, i + 1, _, _, _, rfl, by omega, rfl, rfl, rfl, ⟨hf2.upd' .., by first | omega | (simp only [AHeap.upd_n]; omega)⟩, ?_⟩
          · omega
          · rw [hv]
            exact ⟨(decide_eq_true (by omega)).symm, fun hh => by cases hh⟩
      · simp (maxSteps := 9999999) (disch := first | omega | (simp only [hN] <;> omega) | fail) only [go_sem, simprocAttr]
        have hi' : i = (numText l).length := by have := of_decide_eq_false hlt; omega
        subst hi'
        rw [List.take_length] at hov hN
        have hG2 : GH h2 := hf2.gh (by have := hG.n; omega) (hf1.gh hr0 hG)
        simp (maxSteps := 9999999) (disch := first | omega | (simp only [hN] <;> omega) | fail) only [go_sem, simprocAttr, k4]
        (first | refine condP_splitN (fun ho => ?_) (fun ho => ?_) | refine wantP_splitN (fun ho => ?_) (fun ho => ?_) | refine wantPD_splitN (fun ho => ?_) (fun ho => ?_) | refine condP_split (fun ho => ?_) (fun ho => ?_) | refine wantP_split (fun ho => ?_) (fun ho => ?_) | refine wantPD_split (fun ho => ?_) (fun ho => ?_))
        · rw [ho] at hov
          have hV : ¬ decVal (numText l) < 2 ^ 63 := (by have := of_decide_eq_true (hov.symm); omega)
          simp (maxSteps := 9999999) (disch := first | omega | (simp only [hN] <;> omega) | fail) only [go_sem, simprocAttr, k0, k3, hG2.g1, hb]
          refine stop_spec ?_
          simp (maxSteps := 9999999) (disch := first | omega | (simp only [hN] <;> omega) | fail) only [go_sem, simprocAttr]
          rw [if_neg hV] at hQ
          exact hQ _ ⟨by omega, fun b hb hne => by rw [hf2.old _ (by omega) (by omega), hf1.old _ hb hne]⟩
        · rw [ho] at hov
          have hV : decVal (numText l) < 2 ^ 63 := (by have := of_decide_eq_false (hov.symm); omega)
          have hN' := hN ho
          subst hN'
          have hrd2 : RdL h2 r s (numRest l) := hrd1.of (hf2.old _ (by omega) (by omega))
          rw [if_pos hV] at hQ
          simp (maxSteps := 9999999) (disch := first | omega | (simp only [hN] <;> omega) | fail) only [go_sem, simprocAttr, k0]
          refine alone_spec hG2 hrd2 ?_
          unfold aloneE at hQ
          by_cases hw : headB isWord (numRest l) = true
          · rw [if_pos hw] at hQ ⊢
            simp (maxSteps := 9999999) (disch := first | omega | (simp only [hN] <;> omega) | fail) only [go_sem, simprocAttr]
            exact hQ _ ⟨by omega, fun b hb hne => by rw [hf2.old _ (by omega) (by omega), hf1.old _ hb hne]⟩
          · rw [if_neg hw] at hQ ⊢
            simp (maxSteps := 9999999) (disch := first | omega | (simp only [hN] <;> omega) | fail) only [go_sem, simprocAttr, k3, k2, hb, hf2.old, hb2]
            exact hQ _ (hrd2.of (by simp (maxSteps := 9999999) (disch := first | omega | (simp only [hN] <;> omega) | fail) only [go_sem, simprocAttr])) ⟨by simp only [AHeap.upd_n]; omega, fun b hb hne => by simp (maxSteps := 9999999) (disch := first | omega | (simp only [hN] <;> omega) | fail) only [go_sem, simprocAttr]; rw [hf2.old _ (by omega) (by omega), hf1.old _ hb hne]⟩
    · simp (maxSteps := 9999999) (disch := first | omega | (simp only [hN] <;> omega) | fail) only [go_sem, simprocAttr, g0, g2, g3]
      exact ⟨0, _, _, _, rfl, Nat.zero_le _, rfl, hb3, rfl, Fr.refl _ _, by simp [decVal], fun _ => by simp [decVal]⟩
end Go.Ev
