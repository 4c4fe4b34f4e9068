/- The lexer's marks; the next token. -/
import Derived.Test.YtccenddkgeglmaaDoorBK6
set_option linter.all false
set_option linter.unusedVariables false
set_option linter.unusedSimpArgs false
namespace Go.Ev
open Go
set_option maxRecDepth 100000
set_option maxHeartbeats 4000000

theorem mark_spec {r : Nat} {s l : Bs} {h : AHeap} (hG : GH h) (hr0 : 18 + 17 ≤ r) (hrn : r < h.n) (hbig : s.length < 2 ^ 62) (hrd : RdL h r s l) (hne : l ≠ []) {Q : QR} (hQ : TokQ r s h Q (markTok s.length l)) : WF F 60 [.ptr r 0] h Q := by
  obtain ⟨p, ver, hp, hpl, hr, hd, hc⟩ := hrd.pos
  unfold markTok at hQ
  rw [hp] at hQ
  obtain ⟨c, l0, hcl⟩ : ∃ c l0, l = c :: l0 := by cases l with | nil => exact absurd rfl hne | cons c l => exact ⟨c, l, rfl⟩
  have hll : l.length = l0.length + 1 := by rw [hcl]; rfl
  rw [show l[0]? = some c by rw [hcl]; rfl] at hc
  refine WF.code F60 rfl ?_
  simp (maxSteps := 9999999) (disch := first | omega | (simp only [hN] <;> omega) | fail) only [go_sem, simprocAttr]
  refine wp_loop (fun n a h2 => ∃ i : Nat, n = 7 - i ∧ i ≤ 7 ∧ (marks2.take i).any (hasP l) = false ∧ h2 = h.alloc (.cells .own 0 [.int .i64 0, .str [], .int .i64 0, .int .u64 0, .int .i64 0]) ∧ a.tm.get 6 = some (.int .i64 (i : Int)) ∧ a.tm.get 5 = some (.agg (marks2.map .str)) ∧ a.tm.get 0 = some (.ptr r 0) ∧ a.tm.get 2 = some (.ptr h.n 0) ∧ a.df = []) ?_ 7 ?_
  · rintro n ⟨t, df⟩ h2 ⟨i, hn, hi, hno, rfl, k6, k5, k0, k2, hdf⟩
    simp only at k0 k2 k5 k6 hdf
    subst hdf
    simp (maxSteps := 9999999) (disch := first | omega | (simp only [hN] <;> omega) | fail) only [go_sem, simprocAttr, k6]
    (first | refine condP_splitN (fun hlt => ?_) (fun hlt => ?_) | refine wantP_splitN (fun hlt => ?_) (fun hlt => ?_) | refine wantPD_splitN (fun hlt => ?_) (fun hlt => ?_) | refine condP_split (fun hlt => ?_) (fun hlt => ?_) | refine wantP_split (fun hlt => ?_) (fun hlt => ?_) | refine wantPD_split (fun hlt => ?_) (fun hlt => ?_))
    · have hlt' : i < 7 := (by have := of_decide_eq_true hlt; omega)
      have h7 : ((i : Int) < 7) = True := by simp only [eq_iff_iff, iff_true]; omega
      have hml : marks2.length = 7 := rfl
      have hm : (marks2.map AV.str)[i]? = some (.str (marks2[i]'(by omega))) := by rw [List.getElem?_map, List.getElem?_eq_getElem (by omega)]; rfl
      have hmt : marks2.take (i + 1) = marks2.take i ++ [marks2[i]'(by omega)] := by rw [List.take_succ_eq_append_getElem]
      have hmm : marks2[i]'(by omega) ∈ marks2 := List.getElem_mem _
      generalize marks2[i]'(by omega) = m at hm hmt hmm
      have hm2 : m.length = 2 := by
        have : ∀ m ∈ marks2, m.length = 2 := by decide
        exact this m hmm
      have hsl : bnd (some (.int .i64 (p : Int))) 0 s.length = some p := bnd_num (by omega)
      have htk : (s.drop p).take (s.length - p) = l := by rw [hd]; exact List.take_of_length_le (by omega)
      simp (maxSteps := 9999999) (disch := first | omega | (simp only [hN] <;> omega) | fail) only [go_sem, simprocAttr, k5, k6, k0, h7, Nat.mul_one, hm, hr, hsl, htk]
      refine hasPrefix ?_
      simp (maxSteps := 9999999) (disch := first | omega | (simp only [hN] <;> omega) | fail) only [go_sem, simprocAttr]
      (first | refine condP_splitN (fun hh => ?_) (fun hh => ?_) | refine wantP_splitN (fun hh => ?_) (fun hh => ?_) | refine wantPD_splitN (fun hh => ?_) (fun hh => ?_) | refine condP_split (fun hh => ?_) (fun hh => ?_) | refine wantP_split (fun hh => ?_) (fun hh => ?_) | refine wantPD_split (fun hh => ?_) (fun hh => ?_))
      · have hany : marks2.any (hasP l) = true := List.any_eq_true.2 ⟨m, hmm, hh⟩
        have hlm : l.take 2 = m := by have := beq_iff_eq.1 hh; rw [hm2] at this; exact this
        have hl2 : 2 ≤ l.length := by have := congrArg List.length hlm; rw [List.length_take, hm2] at this; omega
        rw [if_pos hany] at hQ
        simp (maxSteps := 9999999) (disch := first | omega | (simp only [hN] <;> omega) | fail) only [go_sem, simprocAttr, k0, k2, hr]
        rw [← hlm]
        have e : (p : Int) + 2 - 2 = p := by omega
        rw [e]
        exact hQ _ (RdL.mk' (v := ver + 1) (q := p + 2) ((List.drop_suffix 2 l).trans hrd.1) (by rw [List.length_drop]; omega) (by (first | (simp (maxSteps := 9999999) (disch := first | omega | (simp only [hN] <;> omega) | fail) only [go_sem, simprocAttr]; done) | (simp (maxSteps := 9999999) (disch := first | omega | (simp only [hN] <;> omega) | fail) only [go_sem, simprocAttr]; rfl)))) ⟨by (first | omega | (simp only [AHeap.alloc_n, AHeap.upd_n]; omega)), fun b hb hne => by (try simp only [AHeap.alloc_n, AHeap.upd_n] at hb hne); simp (maxSteps := 9999999) (disch := first | omega | (simp only [hN] <;> omega) | fail) only [go_sem, simprocAttr]⟩
      · simp (maxSteps := 9999999) (disch := first | omega | (simp only [hN] <;> omega) | fail) only [go_sem, simprocAttr, k0, k2, k5, k6]
        refine ⟨_, ?_, i + 1, rfl, by omega, ?_, rfl⟩
        · omega
        · rw [hmt, List.any_append, hno]; simp [hh]
    · have hi7 : i = 7 := by have := of_decide_eq_false hlt; omega
      subst hi7
      have hany : marks2.any (hasP l) = false := hno
      rw [hcl] at hQ hany
      simp only [hany, Bool.false_eq_true, if_false] at hQ
      simp (maxSteps := 9999999) (disch := first | omega | (simp only [hN] <;> omega) | fail) only [go_sem, simprocAttr, k0, k2, hr, hc]
      refine indexByte (s := marks1) ?_
      simp (maxSteps := 9999999) (disch := first | omega | (simp only [hN] <;> omega) | fail) only [go_sem, simprocAttr]
      (first | refine condP_splitN (fun hh => ?_) (fun hh => ?_) | refine wantP_splitN (fun hh => ?_) (fun hh => ?_) | refine wantPD_splitN (fun hh => ?_) (fun hh => ?_) | refine condP_split (fun hh => ?_) (fun hh => ?_) | refine wantP_split (fun hh => ?_) (fun hh => ?_) | refine wantPD_split (fun hh => ?_) (fun hh => ?_))
      · have hh' : ¬ 0 ≤ findB c.toNat marks1 0 := (by have := of_decide_eq_true hh; omega)
        have hG1 := hG.alloc (.cells .own 0 [.int .i64 0, .str [], .int .i64 0, .int .u64 0, .int .i64 0])
        simp (maxSteps := 9999999) (disch := first | omega | (simp only [hN] <;> omega) | fail) only [go_sem, simprocAttr, k0, hr, hG1.g2]
        refine stop_spec ?_
        simp (maxSteps := 9999999) (disch := first | omega | (simp only [hN] <;> omega) | fail) only [go_sem, simprocAttr]
        rw [if_neg hh'] at hQ
        exact hQ _ ⟨by (first | omega | (simp only [AHeap.alloc_n, AHeap.upd_n]; omega)), fun b hb hne => by (try simp only [AHeap.alloc_n, AHeap.upd_n] at hb hne); simp (maxSteps := 9999999) (disch := first | omega | (simp only [hN] <;> omega) | fail) only [go_sem, simprocAttr]⟩
      · have hh' : 0 ≤ findB c.toNat marks1 0 := (by have := of_decide_eq_false hh; omega)
        have hsl : bnd (some (.int .i64 (p : Int))) 0 (p + 1) = some p := bnd_num (by omega)
        have hsl2 : bnd (some (.int .i64 ((p : Int) + 1))) s.length s.length = some (p + 1) := bnd_num (i := p + 1) (by omega)
        have e1 : (p : Int) + 1 - 1 = p := by omega
        have htx : (s.drop p).take (p + 1 - p) = [c] := by rw [hd, hcl, show p + 1 - p = 1 by omega]; rfl
        simp (maxSteps := 9999999) (disch := first | omega | (simp only [hN] <;> omega) | fail) only [go_sem, simprocAttr, k0, k2, hr, e1, hsl2, hsl, htx]
        rw [if_pos hh'] at hQ
        exact hQ _ (RdL.mk' (v := ver + 1) (q := p + 1) ((List.suffix_cons c l0).trans (hcl ▸ hrd.1)) (by omega) (by (first | (simp (maxSteps := 9999999) (disch := first | omega | (simp only [hN] <;> omega) | fail) only [go_sem, simprocAttr]; done) | (simp (maxSteps := 9999999) (disch := first | omega | (simp only [hN] <;> omega) | fail) only [go_sem, simprocAttr]; rfl)))) ⟨by (first | omega | (simp only [AHeap.alloc_n, AHeap.upd_n]; omega)), fun b hb hne => by (try simp only [AHeap.alloc_n, AHeap.upd_n] at hb hne); simp (maxSteps := 9999999) (disch := first | omega | (simp only [hN] <;> omega) | fail) only [go_sem, simprocAttr]⟩
  · simp (maxSteps := 9999999) (disch := first | omega | (simp only [hN] <;> omega) | fail) only [go_sem, simprocAttr]
    exact ⟨0, rfl, Nat.zero_le _, rfl, rfl, rfl⟩

theorem next_spec {r : Nat} {s l : Bs} {h : AHeap} (hG : GH h) (hr0 : 18 + 17 ≤ r) (hrn : r < h.n) (hbig : s.length < 2 ^ 62) (hrd : RdL h r s l) (hne : l ≠ []) {Q : QR} (hQ : TokQ r s h Q (nextTok s.length l)) : WF F 35 [.ptr r 0] h Q := by
  obtain ⟨p, ver, hp, hpl, hr, hd, hc⟩ := hrd.pos
  obtain ⟨c, l0, hcl⟩ : ∃ c l0, l = c :: l0 := by cases l with | nil => exact absurd rfl hne | cons c l => exact ⟨c, l, rfl⟩
  rw [show l[0]? = some c by rw [hcl]; rfl] at hc
  have hnx : nextTok s.length l = if isLetter c then wordTok s.length l else if isDigit c then numTok s.length l else if c.toNat = 35 then fltTok s.length l else markTok s.length l := by rw [hcl]; rfl
  rw [hnx] at hQ
  have hl : headB isLetter l = isLetter c := by rw [hcl]; rfl
  have hdg : headB isDigit l = isDigit c := by rw [hcl]; rfl
  have hG1 := hG.alloc (.cells .own 0 [.int .i64 0, .str [], .int .i64 0, .int .u64 0, .int .i64 0])
  refine WF.code F35 rfl ?_
  simp (maxSteps := 9999999) (disch := first | omega | (simp only [hN] <;> omega) | fail) only [go_sem, simprocAttr]
  have hrd1 := hrd.of (h' := h.alloc (.cells .own 0 [.int .i64 0, .str [], .int .i64 0, .int .u64 0, .int .i64 0])) (by simp (maxSteps := 9999999) (disch := first | omega | (simp only [hN] <;> omega) | fail) only [go_sem, simprocAttr])
  refine hereL letter_spec hrd1 ?_
  rw [hl]
  simp (maxSteps := 9999999) (disch := first | omega | (simp only [hN] <;> omega) | fail) only [go_sem, simprocAttr]
  (first | refine condP_splitN (fun h1 => ?_) (fun h1 => ?_) | refine wantP_splitN (fun h1 => ?_) (fun h1 => ?_) | refine wantPD_splitN (fun h1 => ?_) (fun h1 => ?_) | refine condP_split (fun h1 => ?_) (fun h1 => ?_) | refine wantP_split (fun h1 => ?_) (fun h1 => ?_) | refine wantPD_split (fun h1 => ?_) (fun h1 => ?_))
  · rw [if_pos h1] at hQ
    simp (maxSteps := 9999999) (disch := first | omega | (simp only [hN] <;> omega) | fail) only [go_sem, simprocAttr]
    refine word_spec hG1 hr0 (by simp (maxSteps := 9999999) (disch := first | omega | (simp only [hN] <;> omega) | fail) only [go_sem, simprocAttr]; omega) hbig hrd1 ?_
    cases hw : wordTok s.length l with
    | ok x =>
      rw [hw] at hQ
      intro h2 hrd2 hf2
      have hn2 := hf2.n; try simp only [AHeap.alloc_n, AHeap.upd_n] at hn2
      simp (maxSteps := 9999999) (disch := first | omega | (simp only [hN] <;> omega) | fail) only [go_sem, simprocAttr, tokAV, hf2.old]
      exact hQ _ (hrd2.of (by simp (maxSteps := 9999999) (disch := first | omega | (simp only [hN] <;> omega) | fail) only [go_sem, simprocAttr])) ⟨by (first | omega | (simp only [AHeap.alloc_n, AHeap.upd_n]; omega)), fun b hb hne => by (try simp only [AHeap.alloc_n, AHeap.upd_n] at hb hne); simp (maxSteps := 9999999) (disch := first | omega | (simp only [hN] <;> omega) | fail) only [go_sem, simprocAttr, hf2.old]⟩
    | error x =>
      obtain ⟨e9, q9⟩ := x
      rw [hw] at hQ
      intro h2 hf2
      have hn2 := hf2.n; try simp only [AHeap.alloc_n, AHeap.upd_n] at hn2
      simp (maxSteps := 9999999) (disch := first | omega | (simp only [hN] <;> omega) | fail) only [go_sem, simprocAttr]
      exact hQ _ ⟨by (first | omega | (simp only [AHeap.alloc_n, AHeap.upd_n]; omega)), fun b hb hne => by (try simp only [AHeap.alloc_n, AHeap.upd_n] at hb hne); simp (maxSteps := 9999999) (disch := first | omega | (simp only [hN] <;> omega) | fail) only [go_sem, simprocAttr, hf2.old]⟩
  · rw [h1] at hQ
    simp only [Bool.false_eq_true, if_false] at hQ
    simp (maxSteps := 9999999) (disch := first | omega | (simp only [hN] <;> omega) | fail) only [go_sem, simprocAttr]
    refine hereL digit_spec hrd1 ?_
    rw [hdg]
    simp (maxSteps := 9999999) (disch := first | omega | (simp only [hN] <;> omega) | fail) only [go_sem, simprocAttr]
    (first | refine condP_splitN (fun h3 => ?_) (fun h3 => ?_) | refine wantP_splitN (fun h3 => ?_) (fun h3 => ?_) | refine wantPD_splitN (fun h3 => ?_) (fun h3 => ?_) | refine condP_split (fun h3 => ?_) (fun h3 => ?_) | refine wantP_split (fun h3 => ?_) (fun h3 => ?_) | refine wantPD_split (fun h3 => ?_) (fun h3 => ?_))
    · rw [if_pos h3] at hQ
      simp (maxSteps := 9999999) (disch := first | omega | (simp only [hN] <;> omega) | fail) only [go_sem, simprocAttr]
      refine number_spec hG1 hr0 (by simp (maxSteps := 9999999) (disch := first | omega | (simp only [hN] <;> omega) | fail) only [go_sem, simprocAttr]; omega) hbig hrd1 hne ?_
      cases hw : numTok s.length l with
      | ok x =>
        rw [hw] at hQ
        intro h2 hrd2 hf2
        have hn2 := hf2.n; try simp only [AHeap.alloc_n, AHeap.upd_n] at hn2
        simp (maxSteps := 9999999) (disch := first | omega | (simp only [hN] <;> omega) | fail) only [go_sem, simprocAttr, tokAV, hf2.old]
        exact hQ _ (hrd2.of (by simp (maxSteps := 9999999) (disch := first | omega | (simp only [hN] <;> omega) | fail) only [go_sem, simprocAttr])) ⟨by (first | omega | (simp only [AHeap.alloc_n, AHeap.upd_n]; omega)), fun b hb hne => by (try simp only [AHeap.alloc_n, AHeap.upd_n] at hb hne); simp (maxSteps := 9999999) (disch := first | omega | (simp only [hN] <;> omega) | fail) only [go_sem, simprocAttr, hf2.old]⟩
      | error x =>
        obtain ⟨e9, q9⟩ := x
        rw [hw] at hQ
        intro h2 hf2
        have hn2 := hf2.n; try simp only [AHeap.alloc_n, AHeap.upd_n] at hn2
        simp (maxSteps := 9999999) (disch := first | omega | (simp only [hN] <;> omega) | fail) only [go_sem, simprocAttr]
        exact hQ _ ⟨by (first | omega | (simp only [AHeap.alloc_n, AHeap.upd_n]; omega)), fun b hb hne => by (try simp only [AHeap.alloc_n, AHeap.upd_n] at hb hne); simp (maxSteps := 9999999) (disch := first | omega | (simp only [hN] <;> omega) | fail) only [go_sem, simprocAttr, hf2.old]⟩
    · rw [h3] at hQ
      simp only [Bool.false_eq_true, if_false] at hQ
      simp (maxSteps := 9999999) (disch := first | omega | (simp only [hN] <;> omega) | fail) only [go_sem, simprocAttr, hr, hc]
      (first | refine condP_splitN (fun h4 => ?_) (fun h4 => ?_) | refine wantP_splitN (fun h4 => ?_) (fun h4 => ?_) | refine wantPD_splitN (fun h4 => ?_) (fun h4 => ?_) | refine condP_split (fun h4 => ?_) (fun h4 => ?_) | refine wantP_split (fun h4 => ?_) (fun h4 => ?_) | refine wantPD_split (fun h4 => ?_) (fun h4 => ?_))
      · have h4' : c.toNat = 35 := by have : (c.toNat : Int) = 35 := by simpa using h4
                                      omega
        rw [if_pos h4'] at hQ
        simp (maxSteps := 9999999) (disch := first | omega | (simp only [hN] <;> omega) | fail) only [go_sem, simprocAttr]
        refine float_spec hG1 hr0 (by simp (maxSteps := 9999999) (disch := first | omega | (simp only [hN] <;> omega) | fail) only [go_sem, simprocAttr]; omega) hbig hrd1 hne ?_
        cases hw : fltTok s.length l with
        | ok x =>
          rw [hw] at hQ
          intro h2 hrd2 hf2
          have hn2 := hf2.n; try simp only [AHeap.alloc_n, AHeap.upd_n] at hn2
          simp (maxSteps := 9999999) (disch := first | omega | (simp only [hN] <;> omega) | fail) only [go_sem, simprocAttr, tokAV, hf2.old]
          exact hQ _ (hrd2.of (by simp (maxSteps := 9999999) (disch := first | omega | (simp only [hN] <;> omega) | fail) only [go_sem, simprocAttr])) ⟨by (first | omega | (simp only [AHeap.alloc_n, AHeap.upd_n]; omega)), fun b hb hne => by (try simp only [AHeap.alloc_n, AHeap.upd_n] at hb hne); simp (maxSteps := 9999999) (disch := first | omega | (simp only [hN] <;> omega) | fail) only [go_sem, simprocAttr, hf2.old]⟩
        | error x =>
          obtain ⟨e9, q9⟩ := x
          rw [hw] at hQ
          intro h2 hf2
          have hn2 := hf2.n; try simp only [AHeap.alloc_n, AHeap.upd_n] at hn2
          simp (maxSteps := 9999999) (disch := first | omega | (simp only [hN] <;> omega) | fail) only [go_sem, simprocAttr]
          exact hQ _ ⟨by (first | omega | (simp only [AHeap.alloc_n, AHeap.upd_n]; omega)), fun b hb hne => by (try simp only [AHeap.alloc_n, AHeap.upd_n] at hb hne); simp (maxSteps := 9999999) (disch := first | omega | (simp only [hN] <;> omega) | fail) only [go_sem, simprocAttr, hf2.old]⟩
      · have h4' : ¬ c.toNat = 35 := by have : ¬ (c.toNat : Int) = 35 := by simpa using h4
                                        omega
        rw [if_neg h4'] at hQ
        simp (maxSteps := 9999999) (disch := first | omega | (simp only [hN] <;> omega) | fail) only [go_sem, simprocAttr]
        refine mark_spec hG1 hr0 (by simp (maxSteps := 9999999) (disch := first | omega | (simp only [hN] <;> omega) | fail) only [go_sem, simprocAttr]; omega) hbig hrd1 hne ?_
        cases hw : markTok s.length l with
        | ok x =>
          rw [hw] at hQ
          intro h2 hrd2 hf2
          have hn2 := hf2.n; try simp only [AHeap.alloc_n, AHeap.upd_n] at hn2
          simp (maxSteps := 9999999) (disch := first | omega | (simp only [hN] <;> omega) | fail) only [go_sem, simprocAttr, tokAV, hf2.old]
          exact hQ _ (hrd2.of (by simp (maxSteps := 9999999) (disch := first | omega | (simp only [hN] <;> omega) | fail) only [go_sem, simprocAttr])) ⟨by (first | omega | (simp only [AHeap.alloc_n, AHeap.upd_n]; omega)), fun b hb hne => by (try simp only [AHeap.alloc_n, AHeap.upd_n] at hb hne); simp (maxSteps := 9999999) (disch := first | omega | (simp only [hN] <;> omega) | fail) only [go_sem, simprocAttr, hf2.old]⟩
        | error x =>
          obtain ⟨e9, q9⟩ := x
          rw [hw] at hQ
          intro h2 hf2
          have hn2 := hf2.n; try simp only [AHeap.alloc_n, AHeap.upd_n] at hn2
          simp (maxSteps := 9999999) (disch := first | omega | (simp only [hN] <;> omega) | fail) only [go_sem, simprocAttr]
          exact hQ _ ⟨by (first | omega | (simp only [AHeap.alloc_n, AHeap.upd_n]; omega)), fun b hb hne => by (try simp only [AHeap.alloc_n, AHeap.upd_n] at hb hne); simp (maxSteps := 9999999) (disch := first | omega | (simp only [hN] <;> omega) | fail) only [go_sem, simprocAttr, hf2.old]⟩
end Go.Ev
