/- The tree's reader: expressions. -/
import Derived.Test.YtccenddkgeglmaaDoorRK21
import Derived.Test.YtccenddkgeglmaaDoorPuA
import Derived.Test.YtccenddkgeglmaaDoorEvC
set_option linter.all false
set_option linter.unusedVariables false
set_option linter.unusedSimpArgs false
namespace Go.Ev
open Go
set_option maxRecDepth 100000
set_option maxHeartbeats 4000000

theorem prod_tok {E : Nat} {u : PT} (hu : PSpec 119 E u) : PSpec 113 E (rowP true [[42], [47], [37]] u) := by
  intro h r lv ts Q hp hz hQ
  refine WF.code F113 rfl ?_
  have hlt := hp.hi
  simp (disch := first | omega | (simp only [hN] <;> omega) | fail) only [go_sem, simprocAttr, List.map]
  refine row_tok (ops := [[42], [47], [37]]) (ver := 0) hu (hp.fr (h' := (h.alloc (.cells .own 0 [.int .i64 0, .int .i64 0, .str [], .int .i64 0, .int .i64 0, .int .i64 0, .int .i64 0, .int .u64 0, .nilSlice])).alloc (.cells .own 1 (List.map .str [[42], [47], [37]]))) ⟨by first | omega | (simp only [hN]; omega), fun b hb hne => by (try simp only [hN] at hb hne); simp (disch := first | omega | (simp only [hN] <;> omega) | fail) only [go_sem, simprocAttr]⟩) (by (first | (simp (disch := first | omega | (simp only [hN] <;> omega) | fail) only [go_sem, simprocAttr, List.map]; done) | (simp (disch := first | omega | (simp only [hN] <;> omega) | fail) only [go_sem, simprocAttr, List.map]; rfl))) (by simp (disch := first | omega | (simp only [hN] <;> omega) | fail) only [go_sem, simprocAttr]; omega) (by omega) (show 3 < 2 ^ 62 by decide) hz ?_
  cases hy : rowP true [[42], [47], [37]] u lv ts with
  | error e =>
    obtain ⟨e, p⟩ := e
    rw [hy] at hQ
    intro h2 hf2
    have hn2 := hf2.n; try simp only [hN] at hn2
    simp (disch := first | omega | (simp only [hN] <;> omega) | fail) only [go_sem, simprocAttr]
    exact hQ _ ⟨by first | omega | (simp only [hN]; omega), fun b hb hne => by (try simp only [hN] at hb hne); simp (disch := first | omega | (simp only [hN] <;> omega) | fail) only [go_sem, simprocAttr, hf2.old]⟩
  | ok y =>
    obtain ⟨k, ts2⟩ := y
    rw [hy] at hQ
    intro h2 kv hf2 hp2 hk2
    have hn2 := hf2.n; try simp only [hN] at hn2
    have q3 : h2.get h.n = some ⟨0, .cells .own 0 [.int .i64 0, .int .i64 0, .str [], .int .i64 0, .int .i64 0, .int .i64 0, .int .i64 0, .int .u64 0, .nilSlice]⟩ := by simp (disch := first | omega | (simp only [hN] <;> omega) | fail) only [go_sem, simprocAttr, hf2.old]
    simp (disch := first | omega | (simp only [hN] <;> omega) | fail) only [go_sem, simprocAttr, q3, hk2.flat.1, hk2.flat.2]
    exact hQ _ kv ⟨by first | omega | (simp only [hN]; omega), fun b hb hne => by (try simp only [hN] at hb hne); simp (disch := first | omega | (simp only [hN] <;> omega) | fail) only [go_sem, simprocAttr, hf2.old]⟩ (hp2.fr' (q := h.n) (Fr.upd _ _ _) hlt) (hk2.keep (by simp (disch := first | omega | (simp only [hN] <;> omega) | fail) only [go_sem, simprocAttr]; omega) (by simp (disch := first | omega | (simp only [hN] <;> omega) | fail) only [go_sem, simprocAttr]; exact Nat.le_refl _) fun b hb1 hb2 => by simp only [AHeap.alloc_n] at hb1; simp (disch := first | omega | (simp only [hN] <;> omega) | fail) only [go_sem, simprocAttr])

theorem sum_tok {E : Nat} {u : PT} (hu : PSpec 113 E u) : PSpec 106 E (rowP true [[43], [45]] u) := by
  intro h r lv ts Q hp hz hQ
  refine WF.code F106 rfl ?_
  have hlt := hp.hi
  simp (disch := first | omega | (simp only [hN] <;> omega) | fail) only [go_sem, simprocAttr, List.map]
  refine row_tok (ops := [[43], [45]]) (ver := 0) hu (hp.fr (h' := (h.alloc (.cells .own 0 [.int .i64 0, .int .i64 0, .str [], .int .i64 0, .int .i64 0, .int .i64 0, .int .i64 0, .int .u64 0, .nilSlice])).alloc (.cells .own 1 (List.map .str [[43], [45]]))) ⟨by first | omega | (simp only [hN]; omega), fun b hb hne => by (try simp only [hN] at hb hne); simp (disch := first | omega | (simp only [hN] <;> omega) | fail) only [go_sem, simprocAttr]⟩) (by (first | (simp (disch := first | omega | (simp only [hN] <;> omega) | fail) only [go_sem, simprocAttr, List.map]; done) | (simp (disch := first | omega | (simp only [hN] <;> omega) | fail) only [go_sem, simprocAttr, List.map]; rfl))) (by simp (disch := first | omega | (simp only [hN] <;> omega) | fail) only [go_sem, simprocAttr]; omega) (by omega) (show 2 < 2 ^ 62 by decide) hz ?_
  cases hy : rowP true [[43], [45]] u lv ts with
  | error e =>
    obtain ⟨e, p⟩ := e
    rw [hy] at hQ
    intro h2 hf2
    have hn2 := hf2.n; try simp only [hN] at hn2
    simp (disch := first | omega | (simp only [hN] <;> omega) | fail) only [go_sem, simprocAttr]
    exact hQ _ ⟨by first | omega | (simp only [hN]; omega), fun b hb hne => by (try simp only [hN] at hb hne); simp (disch := first | omega | (simp only [hN] <;> omega) | fail) only [go_sem, simprocAttr, hf2.old]⟩
  | ok y =>
    obtain ⟨k, ts2⟩ := y
    rw [hy] at hQ
    intro h2 kv hf2 hp2 hk2
    have hn2 := hf2.n; try simp only [hN] at hn2
    have q3 : h2.get h.n = some ⟨0, .cells .own 0 [.int .i64 0, .int .i64 0, .str [], .int .i64 0, .int .i64 0, .int .i64 0, .int .i64 0, .int .u64 0, .nilSlice]⟩ := by simp (disch := first | omega | (simp only [hN] <;> omega) | fail) only [go_sem, simprocAttr, hf2.old]
    simp (disch := first | omega | (simp only [hN] <;> omega) | fail) only [go_sem, simprocAttr, q3, hk2.flat.1, hk2.flat.2]
    exact hQ _ kv ⟨by first | omega | (simp only [hN]; omega), fun b hb hne => by (try simp only [hN] at hb hne); simp (disch := first | omega | (simp only [hN] <;> omega) | fail) only [go_sem, simprocAttr, hf2.old]⟩ (hp2.fr' (q := h.n) (Fr.upd _ _ _) hlt) (hk2.keep (by simp (disch := first | omega | (simp only [hN] <;> omega) | fail) only [go_sem, simprocAttr]; omega) (by simp (disch := first | omega | (simp only [hN] <;> omega) | fail) only [go_sem, simprocAttr]; exact Nat.le_refl _) fun b hb1 hb2 => by simp only [AHeap.alloc_n] at hb1; simp (disch := first | omega | (simp only [hN] <;> omega) | fail) only [go_sem, simprocAttr])

theorem cmp_tok {E : Nat} {u : PT} (hu : PSpec 106 E u) : PSpec 90 E (rowP false [[61, 61], [33, 61], [60], [60, 61], [62], [62, 61]] u) := by
  intro h r lv ts Q hp hz hQ
  refine WF.code F90 rfl ?_
  have hlt := hp.hi
  simp (disch := first | omega | (simp only [hN] <;> omega) | fail) only [go_sem, simprocAttr, List.map]
  refine row_tok (ops := [[61, 61], [33, 61], [60], [60, 61], [62], [62, 61]]) (ver := 0) hu (hp.fr (h' := (h.alloc (.cells .own 0 [.int .i64 0, .int .i64 0, .str [], .int .i64 0, .int .i64 0, .int .i64 0, .int .i64 0, .int .u64 0, .nilSlice])).alloc (.cells .own 1 (List.map .str [[61, 61], [33, 61], [60], [60, 61], [62], [62, 61]]))) ⟨by first | omega | (simp only [hN]; omega), fun b hb hne => by (try simp only [hN] at hb hne); simp (disch := first | omega | (simp only [hN] <;> omega) | fail) only [go_sem, simprocAttr]⟩) (by (first | (simp (disch := first | omega | (simp only [hN] <;> omega) | fail) only [go_sem, simprocAttr, List.map]; done) | (simp (disch := first | omega | (simp only [hN] <;> omega) | fail) only [go_sem, simprocAttr, List.map]; rfl))) (by simp (disch := first | omega | (simp only [hN] <;> omega) | fail) only [go_sem, simprocAttr]; omega) (by omega) (show 6 < 2 ^ 62 by decide) hz ?_
  cases hy : rowP false [[61, 61], [33, 61], [60], [60, 61], [62], [62, 61]] u lv ts with
  | error e =>
    obtain ⟨e, p⟩ := e
    rw [hy] at hQ
    intro h2 hf2
    have hn2 := hf2.n; try simp only [hN] at hn2
    simp (disch := first | omega | (simp only [hN] <;> omega) | fail) only [go_sem, simprocAttr]
    exact hQ _ ⟨by first | omega | (simp only [hN]; omega), fun b hb hne => by (try simp only [hN] at hb hne); simp (disch := first | omega | (simp only [hN] <;> omega) | fail) only [go_sem, simprocAttr, hf2.old]⟩
  | ok y =>
    obtain ⟨k, ts2⟩ := y
    rw [hy] at hQ
    intro h2 kv hf2 hp2 hk2
    have hn2 := hf2.n; try simp only [hN] at hn2
    have q3 : h2.get h.n = some ⟨0, .cells .own 0 [.int .i64 0, .int .i64 0, .str [], .int .i64 0, .int .i64 0, .int .i64 0, .int .i64 0, .int .u64 0, .nilSlice]⟩ := by simp (disch := first | omega | (simp only [hN] <;> omega) | fail) only [go_sem, simprocAttr, hf2.old]
    simp (disch := first | omega | (simp only [hN] <;> omega) | fail) only [go_sem, simprocAttr, q3, hk2.flat.1, hk2.flat.2]
    exact hQ _ kv ⟨by first | omega | (simp only [hN]; omega), fun b hb hne => by (try simp only [hN] at hb hne); simp (disch := first | omega | (simp only [hN] <;> omega) | fail) only [go_sem, simprocAttr, hf2.old]⟩ (hp2.fr' (q := h.n) (Fr.upd _ _ _) hlt) (hk2.keep (by simp (disch := first | omega | (simp only [hN] <;> omega) | fail) only [go_sem, simprocAttr]; omega) (by simp (disch := first | omega | (simp only [hN] <;> omega) | fail) only [go_sem, simprocAttr]; exact Nat.le_refl _) fun b hb1 hb2 => by simp only [AHeap.alloc_n] at hb1; simp (disch := first | omega | (simp only [hN] <;> omega) | fail) only [go_sem, simprocAttr])

theorem and_tok {E : Nat} {u : PT} (hu : PSpec 90 E u) : PSpec 66 E (rowP true [[38, 38]] u) := by
  intro h r lv ts Q hp hz hQ
  refine WF.code F66 rfl ?_
  have hlt := hp.hi
  simp (disch := first | omega | (simp only [hN] <;> omega) | fail) only [go_sem, simprocAttr, List.map]
  refine row_tok (ops := [[38, 38]]) (ver := 0) hu (hp.fr (h' := (h.alloc (.cells .own 0 [.int .i64 0, .int .i64 0, .str [], .int .i64 0, .int .i64 0, .int .i64 0, .int .i64 0, .int .u64 0, .nilSlice])).alloc (.cells .own 1 (List.map .str [[38, 38]]))) ⟨by first | omega | (simp only [hN]; omega), fun b hb hne => by (try simp only [hN] at hb hne); simp (disch := first | omega | (simp only [hN] <;> omega) | fail) only [go_sem, simprocAttr]⟩) (by (first | (simp (disch := first | omega | (simp only [hN] <;> omega) | fail) only [go_sem, simprocAttr, List.map]; done) | (simp (disch := first | omega | (simp only [hN] <;> omega) | fail) only [go_sem, simprocAttr, List.map]; rfl))) (by simp (disch := first | omega | (simp only [hN] <;> omega) | fail) only [go_sem, simprocAttr]; omega) (by omega) (show 1 < 2 ^ 62 by decide) hz ?_
  cases hy : rowP true [[38, 38]] u lv ts with
  | error e =>
    obtain ⟨e, p⟩ := e
    rw [hy] at hQ
    intro h2 hf2
    have hn2 := hf2.n; try simp only [hN] at hn2
    simp (disch := first | omega | (simp only [hN] <;> omega) | fail) only [go_sem, simprocAttr]
    exact hQ _ ⟨by first | omega | (simp only [hN]; omega), fun b hb hne => by (try simp only [hN] at hb hne); simp (disch := first | omega | (simp only [hN] <;> omega) | fail) only [go_sem, simprocAttr, hf2.old]⟩
  | ok y =>
    obtain ⟨k, ts2⟩ := y
    rw [hy] at hQ
    intro h2 kv hf2 hp2 hk2
    have hn2 := hf2.n; try simp only [hN] at hn2
    have q3 : h2.get h.n = some ⟨0, .cells .own 0 [.int .i64 0, .int .i64 0, .str [], .int .i64 0, .int .i64 0, .int .i64 0, .int .i64 0, .int .u64 0, .nilSlice]⟩ := by simp (disch := first | omega | (simp only [hN] <;> omega) | fail) only [go_sem, simprocAttr, hf2.old]
    simp (disch := first | omega | (simp only [hN] <;> omega) | fail) only [go_sem, simprocAttr, q3, hk2.flat.1, hk2.flat.2]
    exact hQ _ kv ⟨by first | omega | (simp only [hN]; omega), fun b hb hne => by (try simp only [hN] at hb hne); simp (disch := first | omega | (simp only [hN] <;> omega) | fail) only [go_sem, simprocAttr, hf2.old]⟩ (hp2.fr' (q := h.n) (Fr.upd _ _ _) hlt) (hk2.keep (by simp (disch := first | omega | (simp only [hN] <;> omega) | fail) only [go_sem, simprocAttr]; omega) (by simp (disch := first | omega | (simp only [hN] <;> omega) | fail) only [go_sem, simprocAttr]; exact Nat.le_refl _) fun b hb1 hb2 => by simp only [AHeap.alloc_n] at hb1; simp (disch := first | omega | (simp only [hN] <;> omega) | fail) only [go_sem, simprocAttr])

theorem expr_tok {E : Nat} {u : PT} (hu : PSpec 66 E u) : PSpec 38 E (rowP true [[124, 124]] u) := by
  intro h r lv ts Q hp hz hQ
  refine WF.code F38 rfl ?_
  have hlt := hp.hi
  simp (disch := first | omega | (simp only [hN] <;> omega) | fail) only [go_sem, simprocAttr, List.map]
  refine row_tok (ops := [[124, 124]]) (ver := 0) hu (hp.fr (h' := (h.alloc (.cells .own 0 [.int .i64 0, .int .i64 0, .str [], .int .i64 0, .int .i64 0, .int .i64 0, .int .i64 0, .int .u64 0, .nilSlice])).alloc (.cells .own 1 (List.map .str [[124, 124]]))) ⟨by first | omega | (simp only [hN]; omega), fun b hb hne => by (try simp only [hN] at hb hne); simp (disch := first | omega | (simp only [hN] <;> omega) | fail) only [go_sem, simprocAttr]⟩) (by (first | (simp (disch := first | omega | (simp only [hN] <;> omega) | fail) only [go_sem, simprocAttr, List.map]; done) | (simp (disch := first | omega | (simp only [hN] <;> omega) | fail) only [go_sem, simprocAttr, List.map]; rfl))) (by simp (disch := first | omega | (simp only [hN] <;> omega) | fail) only [go_sem, simprocAttr]; omega) (by omega) (show 1 < 2 ^ 62 by decide) hz ?_
  cases hy : rowP true [[124, 124]] u lv ts with
  | error e =>
    obtain ⟨e, p⟩ := e
    rw [hy] at hQ
    intro h2 hf2
    have hn2 := hf2.n; try simp only [hN] at hn2
    simp (disch := first | omega | (simp only [hN] <;> omega) | fail) only [go_sem, simprocAttr]
    exact hQ _ ⟨by first | omega | (simp only [hN]; omega), fun b hb hne => by (try simp only [hN] at hb hne); simp (disch := first | omega | (simp only [hN] <;> omega) | fail) only [go_sem, simprocAttr, hf2.old]⟩
  | ok y =>
    obtain ⟨k, ts2⟩ := y
    rw [hy] at hQ
    intro h2 kv hf2 hp2 hk2
    have hn2 := hf2.n; try simp only [hN] at hn2
    have q3 : h2.get h.n = some ⟨0, .cells .own 0 [.int .i64 0, .int .i64 0, .str [], .int .i64 0, .int .i64 0, .int .i64 0, .int .i64 0, .int .u64 0, .nilSlice]⟩ := by simp (disch := first | omega | (simp only [hN] <;> omega) | fail) only [go_sem, simprocAttr, hf2.old]
    simp (disch := first | omega | (simp only [hN] <;> omega) | fail) only [go_sem, simprocAttr, q3, hk2.flat.1, hk2.flat.2]
    exact hQ _ kv ⟨by first | omega | (simp only [hN]; omega), fun b hb hne => by (try simp only [hN] at hb hne); simp (disch := first | omega | (simp only [hN] <;> omega) | fail) only [go_sem, simprocAttr, hf2.old]⟩ (hp2.fr' (q := h.n) (Fr.upd _ _ _) hlt) (hk2.keep (by simp (disch := first | omega | (simp only [hN] <;> omega) | fail) only [go_sem, simprocAttr]; omega) (by simp (disch := first | omega | (simp only [hN] <;> omega) | fail) only [go_sem, simprocAttr]; exact Nat.le_refl _) fun b hb1 hb2 => by simp only [AHeap.alloc_n] at hb1; simp (disch := first | omega | (simp only [hN] <;> omega) | fail) only [go_sem, simprocAttr])

theorem exprOf_tok {E : Nat} {u : PT} (hu : PSpec 119 E u) : PSpec 38 E (exprOf u) := expr_tok (and_tok (cmp_tok (sum_tok (prod_tok hu))))

theorem unary_tok {E : Nat} (f : Nat) : PSpec 119 E (unP E f) := by
  induction f with
  | zero => intro h r lv ts Q hp hz hQ; exact absurd rfl hz
  | succ f unary_ih =>
    intro h r lv ts Q hp hz hQ
    refine WF.code F119 rfl ?_
    have hlt := hp.hi
    simp (disch := first | omega | (simp only [hN] <;> omega) | fail) only [go_sem, simprocAttr]
    rw [unP] at hz hQ
    refine is_tok (ws := [[45], [33]]) (md := .own) (ver := 0) (E := E) (ts := ts) (lv := lv) (hp.fr ⟨by first | omega | (simp only [hN]; omega), fun b hb hne => by (try simp only [hN] at hb hne); simp (disch := first | omega | (simp only [hN] <;> omega) | fail) only [go_sem, simprocAttr]⟩) (by (first | (simp (disch := first | omega | (simp only [hN] <;> omega) | fail) only [go_sem, simprocAttr, List.map]; done) | (simp (disch := first | omega | (simp only [hN] <;> omega) | fail) only [go_sem, simprocAttr, List.map]; rfl))) (by simp (disch := first | omega | (simp only [hN] <;> omega) | fail) only [go_sem, simprocAttr]; omega) (show 2 < 2 ^ 62 by decide) ?_
    intro h1 hf1
    have hn1 := hf1.n; try simp only [hN] at hn1
    have hf : ∀ b', b' < h.n → h1.get b' = h.get b' := fun b' hb' => by simp (disch := first | omega | (simp only [hN] <;> omega) | fail) only [go_sem, simprocAttr, hf1.old]
    have q0 : h1.get h.n = some ⟨0, .cells .own 0 [.int .i64 0, .int .i64 0, .str [], .int .i64 0, .int .i64 0, .int .i64 0, .int .i64 0, .int .u64 0, .nilSlice]⟩ := by simp (disch := first | omega | (simp only [hN] <;> omega) | fail) only [go_sem, simprocAttr, hf1.old]
    have hp1 : PInv h1 r E ts lv := hp.fr ⟨by first | omega | (simp only [hN]; omega), fun b hb hne => by (try simp only [hN] at hb hne); simp (disch := first | omega | (simp only [hN] <;> omega) | fail) only [go_sem, simprocAttr, hf]⟩
    clear hf1
    by_cases hi : isT [[45], [33]] ts = true
    · rw [if_pos hi] at hz hQ
      simp (disch := first | omega | (simp only [hN] <;> omega) | fail) only [go_sem, simprocAttr, hi]
      refine here_tok (E := E) (lv := lv) (ts := ts) hp1 ?_
      intro h2 hf2
      have hn2 := hf2.n; try simp only [hN] at hn2
      have hp2 := hp1.fr hf2
      simp (disch := first | omega | (simp only [hN] <;> omega) | fail) only [go_sem, simprocAttr, tokAV]
      refine open_tok hp2 ?_
      have hop : isT [(hdT E ts).text] ts = true := by
        cases ts with
        | nil => exact absurd rfl (isT_ne hi)
        | cons t ts =>
          simp only [isT, Bool.and_eq_true] at hi ⊢
          exact ⟨hi.1, by simp [hdT]⟩
      rw [if_pos hop]
      by_cases h16 : lv = 16
      · rw [if_pos h16] at hQ ⊢
        intro h6 hf6
        have hn6 := hf6.n; try simp only [hN] at hn6
        simp (disch := first | omega | (simp only [hN] <;> omega) | fail) only [go_sem, simprocAttr]
        exact hQ _ ⟨by first | omega | (simp only [hN]; omega), fun b hb hne => by (try simp only [hN] at hb hne); simp (disch := first | omega | (simp only [hN] <;> omega) | fail) only [go_sem, simprocAttr, hf6.old, hf2.old, hf]⟩
      · rw [if_neg h16] at hQ hz ⊢
        intro h6 hf6 hp6
        have hn6 := hf6.n; try simp only [hN] at hn6
        have hlt6 := hp6.hi
        have d1 : decide (h6.n = h6.n + 1) = false := decide_eq_false (by omega)
        simp (disch := first | omega | (simp only [hN] <;> omega) | fail) only [go_sem, simprocAttr, tokAV, d1]
        generalize hG : ((h6.alloc (.cells .own 0 [.int .i64 0, .str [], .int .i64 0, .int .u64 0, .int .i64 0])).upd h6.n 1 (.cells .own 0 [.int .i64 ((hdT E ts).kind : Int), .str (hdT E ts).text, .int .i64 ((hdT E ts).n : Int), .int .u64 ((hdT E ts).bits : Int), .int .i64 ((hdT E ts).pos : Int)])).alloc (.cells .own 0 [.int .i64 0, .int .i64 0, .str [], .int .i64 0, .int .i64 0, .int .i64 0, .int .i64 0, .int .u64 0, .nilSlice]) = G
        have hGn : G.n = h6.n + 2 := by rw [← hG]; simp (disch := first | omega | (simp only [hN] <;> omega) | fail) only [go_sem, simprocAttr]
        have hG1 : ∀ b', b' < h6.n → G.get b' = h6.get b' := fun b' hb' => by rw [← hG]; simp (disch := first | omega | (simp only [hN] <;> omega) | fail) only [go_sem, simprocAttr]
        have hGt : G.get h6.n = some ⟨1, .cells .own 0 [.int .i64 ((hdT E ts).kind : Int), .str (hdT E ts).text, .int .i64 ((hdT E ts).n : Int), .int .u64 ((hdT E ts).bits : Int), .int .i64 ((hdT E ts).pos : Int)]⟩ := by rw [← hG]; simp (disch := first | omega | (simp only [hN] <;> omega) | fail) only [go_sem, simprocAttr]
        have hGz : G.get (h6.n + 1) = some ⟨0, .cells .own 0 [.int .i64 0, .int .i64 0, .str [], .int .i64 0, .int .i64 0, .int .i64 0, .int .i64 0, .int .u64 0, .nilSlice]⟩ := by rw [← hG]; simp (disch := first | omega | (simp only [hN] <;> omega) | fail) only [go_sem, simprocAttr]
        have hpG : PInv G r E ts.tail (lv + 1) := hp6.fr ⟨by omega, fun b hb _ => hG1 b hb⟩
        have q6 : h6.get h.n = some ⟨0, .cells .own 0 [.int .i64 0, .int .i64 0, .str [], .int .i64 0, .int .i64 0, .int .i64 0, .int .i64 0, .int .u64 0, .nilSlice]⟩ := by rw [hf6.old _ (by omega) (by omega), hf2.old _ (by omega) (by omega)]; exact q0
        have hf' : ∀ b', b' < h.n → b' ≠ r → G.get b' = h.get b' := fun b' hb' hr' => by rw [hG1 _ (by omega), hf6.old _ (by omega) hr', hf2.old _ (by omega) (by omega)]; exact hf _ hb'
        have hlv := hp6.lvl
        clear hf6 hf2 hf hG hp6 hp2 hp1 hop hi q0
        refine unary_ih hpG ?_ ?_
        · intro e; rw [e] at hz; exact hz rfl
        cases hxx : unP E f (lv + 1) ts.tail with
        | error e =>
          obtain ⟨e, p⟩ := e
          rw [hxx] at hQ
          intro h7 hf7
          have hn7 := hf7.n; try simp only [hN] at hn7
          have q7 : h7.get h6.n = G.get h6.n := hf7.old _ (by omega) (by omega)
          have q8 : h7.get (h6.n + 1) = G.get (h6.n + 1) := hf7.old _ (by omega) (by omega)
          simp (disch := first | omega | (simp only [hN] <;> omega) | fail) only [go_sem, simprocAttr, q7, q8, hGt, hGz]
          exact hQ _ ⟨by first | omega | (simp only [hN]; omega), fun b hb hne => by (try simp only [hN] at hb hne); simp (disch := first | omega | (simp only [hN] <;> omega) | fail) only [go_sem, simprocAttr, hf7.old, hf']⟩
        | ok y =>
          obtain ⟨k, ts2⟩ := y
          rw [hxx] at hQ hz
          intro h7 kv hf7 hp7 hk7
          have hn7 := hf7.n; try simp only [hN] at hn7
          have q7 : h7.get h6.n = G.get h6.n := hf7.old _ (by omega) (by omega)
          have q8 : h7.get (h6.n + 1) = G.get (h6.n + 1) := hf7.old _ (by omega) (by omega)
          have q9 : h7.get h.n = h6.get h.n := by rw [hf7.old _ (by omega) (by omega)]; exact hG1 _ (by omega)
          obtain ⟨vr, v, hr, ht⟩ := hp7.st
          have hlt7 := hp7.hi
          have ep : (((lv + 1 : Nat) : Int) - 1) = (lv : Int) := by omega
          have g1 : (h6.n + 1 = r) = False := by simp; omega
          have g2 : (h.n = r) = False := by simp; omega
          rw [q6] at q9
          rw [hGt] at q7
          rw [hGz] at q8
          simp (disch := first | omega | (simp only [hN] <;> omega) | fail) only [go_sem, simprocAttr, q7, q8, q9, hGt, hGz, hk7.flat.1, hk7.flat.2, hr, ep]
          have hpa := (hp7.fr (h' := h7.alloc (.cells .own 9 (ndC k kv))) ⟨by first | omega | (simp only [hN]; omega), fun b hb hne => by (try simp only [hN] at hb hne); simp (disch := first | omega | (simp only [hN] <;> omega) | fail) only [go_sem, simprocAttr]⟩).fr' (q := h6.n + 1) (Fr.upd _ 1 (.cells .own 0 [.int .i64 30, .int .i64 ((hdT E ts).pos : Int), .str (hdT E ts).text, .int .i64 0, .int .i64 0, .int .i64 0, .int .i64 0, .int .u64 0, .slice h7.n 0 1 1 true])) (by omega)
          have hpb := hpa.step (lv' := lv) (ver := vr + 1) (v := v) (ts' := ts2) (Fr.upd _ (vr + 1) (.cells .own 0 [v, .int .i64 (E : Int), .int .i64 (lv : Int)])) (by simp (disch := first | omega | (simp only [hN] <;> omega) | fail) only [go_sem, simprocAttr]) (ht.fr (q := h6.n + 1) (⟨by first | omega | (simp only [hN]; omega), fun b hb hne => by (try simp only [hN] at hb hne); simp (disch := first | omega | (simp only [hN] <;> omega) | fail) only [go_sem, simprocAttr]⟩ : Fr (h6.n + 1) h7 _) hlt7 (by omega)) (by omega)
          refine hQ _ _ ⟨by first | omega | (simp only [hN]; omega), fun b hb hne => by (try simp only [hN] at hb hne); simp (disch := first | omega | (simp only [hN] <;> omega) | fail) only [go_sem, simprocAttr, hf7.old, hf']⟩ (hpb.fr' (q := h.n) (Fr.upd _ _ _) hlt) ?_
          exact KidsR.one (ver := 0) (kv := kv) (hk7.keep (by omega) (by simp (disch := first | omega | (simp only [hN] <;> omega) | fail) only [go_sem, simprocAttr]; omega) fun b hb1 hb2 => by simp (disch := first | omega | (simp only [hN] <;> omega) | fail) only [go_sem, simprocAttr]) (by omega) (by simp (disch := first | omega | (simp only [hN] <;> omega) | fail) only [go_sem, simprocAttr]; omega) (by simp (disch := first | omega | (simp only [hN] <;> omega) | fail) only [go_sem, simprocAttr])
    · rw [if_neg hi] at hz hQ
      have hi' : isT [[45], [33]] ts = false := by simpa using hi
      simp (disch := first | omega | (simp only [hN] <;> omega) | fail) only [go_sem, simprocAttr, hi']
      refine prim_tok (exprOf_tok unary_ih) hp1 hz ?_
      cases hy : primP E (exprOf (unP E f)) lv ts with
      | error e =>
        obtain ⟨e, p⟩ := e
        rw [hy] at hQ
        intro h2 hf2
        have hn2 := hf2.n; try simp only [hN] at hn2
        simp (disch := first | omega | (simp only [hN] <;> omega) | fail) only [go_sem, simprocAttr]
        exact hQ _ ⟨by first | omega | (simp only [hN]; omega), fun b hb hne => by (try simp only [hN] at hb hne); simp (disch := first | omega | (simp only [hN] <;> omega) | fail) only [go_sem, simprocAttr, hf2.old, hf]⟩
      | ok y =>
        obtain ⟨k, ts2⟩ := y
        rw [hy] at hQ
        intro h2 kv hf2 hp2 hk2
        have hn2 := hf2.n; try simp only [hN] at hn2
        have q3 : h2.get h.n = some ⟨0, .cells .own 0 [.int .i64 0, .int .i64 0, .str [], .int .i64 0, .int .i64 0, .int .i64 0, .int .i64 0, .int .u64 0, .nilSlice]⟩ := by rw [hf2.old _ (by omega) (by omega)]; exact q0
        simp (disch := first | omega | (simp only [hN] <;> omega) | fail) only [go_sem, simprocAttr, q3, hk2.flat.1, hk2.flat.2]
        exact hQ _ kv ⟨by first | omega | (simp only [hN]; omega), fun b hb hne => by (try simp only [hN] at hb hne); simp (disch := first | omega | (simp only [hN] <;> omega) | fail) only [go_sem, simprocAttr, hf2.old, hf]⟩ (hp2.fr' (q := h.n) (Fr.upd _ _ _) hlt) (hk2.keep (by omega) (by simp (disch := first | omega | (simp only [hN] <;> omega) | fail) only [go_sem, simprocAttr]; exact Nat.le_refl _) fun b hb1 hb2 => by simp (disch := first | omega | (simp only [hN] <;> omega) | fail) only [go_sem, simprocAttr])
end Go.Ev
/- The tree's reader: a whole text. -/
namespace Go.Ev
open Go
set_option maxRecDepth 100000
set_option maxHeartbeats 4000000

def zN : List AV := [.int .i64 0, .int .i64 0, .str [], .int .i64 0, .int .i64 0, .int .i64 0, .int .i64 0, .int .u64 0, .nilSlice]
attribute [go_sem] zN
theorem trecover_ret {o b : Nat} {h : AHeap} {Q : AHeap → Prop} (hQ : Q h) : WDef F 63 [.ptr o 0, .ptr b 0] .ret h Q := by
  refine WDef.code F63 rfl ?_
  simp (disch := first | omega | (simp only [hN] <;> omega) | fail) only [go_sem, simprocAttr, eqT, eqK]
  exact hQ
theorem trecover_stop {o b e p v1 v2 : Nat} {h : AHeap} {n : Nd} {kv x2 x3 : AV} {Q : AHeap → Prop} (ho : h.get o = some ⟨v1, .cells .own 0 (ndC n kv)⟩) (hb : h.get b = some ⟨v2, .cells .own 0 [x2, x3]⟩) (hob : o ≠ b) (hon : o < h.n) (hbn : b < h.n)
    (hQ : ∀ h', h.n ≤ h'.n → (∀ c, c < h.n → c ≠ o → c ≠ b → h'.get c = h.get c) → (∃ v, h'.get o = some ⟨v, .cells .own 0 zN⟩) → (∃ v, h'.get b = some ⟨v, .cells .own 0 [errAV e, .int .i64 (p : Int)]⟩) → Q h') :
    WDef F 63 [.ptr o 0, .ptr b 0] (.pan (.iface 95 (.agg [errAV e, .int .i64 (p : Int)]))) h Q := by
  refine WDef.code F63 rfl ?_
  have d1 : decide (h.n = o) = false := decide_eq_false (by omega)
  simp (disch := first | omega | (simp only [hN] <;> omega) | fail) only [go_sem, simprocAttr, eqT, eqK, Nat.beq_refl, List.getElem?_cons_zero, ho, hb, d1]
  exact hQ _ (by simp only [AHeap.alloc_n, AHeap.upd_n]; omega) (fun c hc h1 h2 => by simp (disch := first | omega | (simp only [hN] <;> omega) | fail) only [go_sem, simprocAttr]) ⟨v1 + 1, by simp (disch := first | omega | (simp only [hN] <;> omega) | fail) only [go_sem, simprocAttr]⟩ ⟨v2 + 1, by simp (disch := first | omega | (simp only [hN] <;> omega) | fail) only [go_sem, simprocAttr]⟩

theorem PInv.loc {h : AHeap} {r E lv q v0 v1 : Nat} {ts : List Tok} {cs : List AV} {o : AObj} (p : PInv h r E ts lv) (hq : 18 + 17 ≤ q) (hqr : q ≠ r) (hg : h.get q = some ⟨v0, .cells .own 0 cs⟩) : PInv (h.upd q v1 o) r E ts lv := by
  obtain ⟨ver, v, h1, h2⟩ := p.st
  refine ⟨p.gh.upd hq _ _, p.lo, p.hi, p.lvl, ver, v, by rw [AHeap.get_upd, if_neg (Ne.symm hqr)]; exact h1, ?_⟩
  rcases h2 with h2 | ⟨b, vb, k, all, e1, e2, e3, e4⟩
  · exact .inl h2
  · refine .inr ⟨b, vb, k, all, e1, e2, ?_, e4⟩
    rw [AHeap.get_upd, if_neg (by rintro rfl; rw [hg] at e3; cases e3)]
    exact e3

def ReadQ (h : AHeap) (Q : QR) : Except Err Nd → Prop
  | .error (e, p) => ∀ h', Fr h.n h h' → Q (.ret (.tuple [.agg zN, .agg [errAV e, .int .i64 (p : Int)]])) h'
  | .ok n => ∀ h' kv, Fr h.n h h' → KidsR h.n h' n.kids kv → Q (.ret (.tuple [.agg (ndC n kv), .agg [.nilIface, .int .i64 0]])) h'

theorem read_tok {fid : Nat} {p : Nat → Nat → PT} (hP : ∀ E f, PSpec fid E (p E f)) (hF : ∀ E f, Fine f (p E (f + 1))) {s : Bs} (hlen : s.length < 2 ^ 62) {h : AHeap} (hG : GH h) {Q : QR} (hQ : ReadQ h Q (readP p s)) : WF F 37 [.str s, .func (.func fid) [] []] h Q := by
  refine WF.code F37 rfl ?_
  simp (disch := first | omega | (simp only [hN] <;> omega) | fail) only [go_sem, simprocAttr]
  refine tokens_spec ((hG.alloc _).alloc _) hlen ?_
  unfold readP at hQ
  cases hts : tokens s with
  | error x =>
    obtain ⟨e, q⟩ := x
    rw [hts] at hQ
    intro h1 hf1
    have hn1 := hf1.n; try simp only [hN] at hn1
    have d1 : decide (h.n + 1 = h.n) = false := decide_eq_false (by omega)
    simp (disch := first | omega | (simp only [hN] <;> omega) | fail) only [go_sem, simprocAttr, hf1.old, d1]
    refine hQ _ ?_
    exact ⟨by first | omega | (simp only [hN]; omega), fun b hb hne => by (try simp only [hN] at hb hne); simp (disch := first | omega | (simp only [hN] <;> omega) | fail) only [go_sem, simprocAttr, hf1.old]⟩
  | ok ts =>
    rw [hts] at hQ
    simp only at hQ
    intro h1 v1 hf1 hts1
    have hn1 := hf1.n; try simp only [hN] at hn1
    have hG1 : GH h1 := hf1.gh (by have := hG.n; simp (disch := first | omega | (simp only [hN] <;> omega) | fail) only [go_sem, simprocAttr]; omega) ((hG.alloc _).alloc _)
    simp (disch := first | omega | (simp only [hN] <;> omega) | fail) only [go_sem, simprocAttr, hf1.old, eqT_nil, hts1.flat.1, hts1.flat.2]
    have hf : ∀ b', b' < h.n → h1.get b' = h.get b' := fun b' hb' => by simp (disch := first | omega | (simp only [hN] <;> omega) | fail) only [go_sem, simprocAttr, hf1.old]
    have q4 : h1.get h.n = some ⟨0, .cells .own 0 zN⟩ := by simp (disch := first | omega | (simp only [hN] <;> omega) | fail) only [go_sem, simprocAttr, hf1.old]
    have ht0 : TokR h1 h1.n ts v1 := by
      obtain ⟨_, ⟨h0, rfl⟩ | ⟨hpos, b, ver, rfl, hb1, hb2, hb3⟩⟩ := hts1
      · exact .inl ⟨List.length_eq_zero_iff.1 h0, rfl⟩
      · exact .inr ⟨b, ver, 0, ts, by simp, hb2, hb3, rfl⟩
    generalize hH : ((h1.upd (h.n + 1) 1 (.cells .own 0 [.nilIface, .int .i64 0])).alloc (.cells .own 0 [v1, .int .i64 (s.length : Int), .int .i64 0])) = H
    have hHn : H.n = h1.n + 1 := by rw [← hH]; simp (disch := first | omega | (simp only [hN] <;> omega) | fail) only [go_sem, simprocAttr]
    have hH1 : ∀ b', b' < h1.n → b' ≠ h.n + 1 → H.get b' = h1.get b' := fun b' hb' hn' => by rw [← hH]; simp (disch := first | omega | (simp only [hN] <;> omega) | fail) only [go_sem, simprocAttr]
    have hH5 : H.get (h.n + 1) = some ⟨1, .cells .own 0 [.nilIface, .int .i64 0]⟩ := by rw [← hH]; simp (disch := first | omega | (simp only [hN] <;> omega) | fail) only [go_sem, simprocAttr]
    have hHr : H.get h1.n = some ⟨0, .cells .own 0 [v1, .int .i64 (s.length : Int), .int .i64 0]⟩ := by rw [← hH]; simp (disch := first | omega | (simp only [hN] <;> omega) | fail) only [go_sem, simprocAttr]
    have ht : TokR H h1.n ts v1 := by
      obtain ⟨_, ⟨h0, rfl⟩ | ⟨hpos, b, ver, rfl, hb1, hb2, hb3⟩⟩ := hts1
      · exact .inl ⟨List.length_eq_zero_iff.1 h0, rfl⟩
      · simp only [AHeap.alloc_n] at hb1
        exact .inr ⟨b, ver, 0, ts, by simp, hb2, by rw [hH1 _ hb2 (by omega)]; exact hb3, rfl⟩
    have hn0 := hG.n
    have hGH : GH H := (show Fr (h.n + 1) h1 H from ⟨by omega, fun b hb hne => hH1 b hb hne⟩).gh (by omega) hG1
    have hpH : PInv H h1.n s.length ts 0 := ⟨hGH, by omega, by omega, by omega, 0, v1, hHr, ht⟩
    have q4 : H.get h.n = some ⟨0, .cells .own 0 zN⟩ := by rw [hH1 _ (by omega) (by omega)]; exact q4
    have hf : ∀ b', b' < h.n → H.get b' = h.get b' := fun b' hb' => by rw [hH1 _ (by omega) (by omega)]; exact hf _ hb'
    generalize h1.n = r at *
    clear hH hH1 hHr ht ht0 hG1 hf1 hts1 hGH
    have hfine := hF s.length ts.length 0 ts (Nat.le_refl _)
    simp only [List.nil_append, List.append_nil]
    refine hP s.length (ts.length + 1) hpH ?_ ?_
    · intro e; rw [e] at hfine; rcases hfine with h | h <;> exact absurd h (by decide)
    cases hx : p s.length (ts.length + 1) 0 ts with
    | error x =>
      obtain ⟨e, q⟩ := x
      rw [hx] at hQ
      intro h2 hf2
      have hn2 := hf2.n; try simp only [hN] at hn2
      have q42 : h2.get h.n = some ⟨0, .cells .own 0 zN⟩ := by rw [hf2.old _ (by omega) (by omega)]; exact q4
      have q52 : h2.get (h.n + 1) = some ⟨1, .cells .own 0 [.nilIface, .int .i64 0]⟩ := by rw [hf2.old _ (by omega) (by omega)]; exact hH5
      simp (disch := first | omega | (simp only [hN] <;> omega) | fail) only [go_sem, simprocAttr, List.append_nil, List.nil_append]
      refine trecover_stop (n := .mk 0 0 [] 0 0 0 0 0 []) q42 q52 (by omega) (by omega) (by omega) ?_
      rintro h3 hn3 hf3 ⟨v3, q43⟩ ⟨v4, q53⟩
      simp (disch := first | omega | (simp only [hN] <;> omega) | fail) only [go_sem, simprocAttr, q43, q53]
      refine hQ _ ⟨by omega, fun b hb _ => ?_⟩
      rw [hf3 _ (by omega) (by omega) (by omega), hf2.old _ (by omega) (by omega)]
      exact hf _ hb
    | ok y =>
      obtain ⟨n, ts'⟩ := y
      rw [hx] at hQ
      intro h2 kv hf2 hp2 hk2
      have hn2 := hf2.n; try simp only [hN] at hn2
      have q42 : h2.get h.n = some ⟨0, .cells .own 0 zN⟩ := by rw [hf2.old _ (by omega) (by omega)]; exact q4
      have q52 : h2.get (h.n + 1) = some ⟨1, .cells .own 0 [.nilIface, .int .i64 0]⟩ := by rw [hf2.old _ (by omega) (by omega)]; exact hH5
      obtain ⟨vr, v, hr, htr⟩ := hp2.st
      have hlt2 := hp2.hi
      simp (disch := first | omega | (simp only [hN] <;> omega) | fail) only [go_sem, simprocAttr, q42, q52, hk2.flat.1, hk2.flat.2, hr, htr.len]
      cases ts' with
      | nil =>
        have c0 : decide ((0 : Int) > 0) = false := rfl
        simp (disch := first | omega | (simp only [hN] <;> omega) | fail) only [go_sem, simprocAttr, List.length_nil, Int.natCast_zero, c0, q42, q52, hk2.flat.1, hk2.flat.2]
        refine trecover_ret ?_
        simp (disch := first | omega | (simp only [hN] <;> omega) | fail) only [go_sem, simprocAttr, q42, q52, hk2.flat.1, hk2.flat.2]
        refine hQ _ kv ⟨by first | omega | (simp only [hN]; omega), fun b hb hne => by (try simp only [hN] at hb hne); simp (disch := first | omega | (simp only [hN] <;> omega) | fail) only [go_sem, simprocAttr, hf2.old, hf]⟩ (hk2.keep (by omega) (by simp (disch := first | omega | (simp only [hN] <;> omega) | fail) only [go_sem, simprocAttr]; exact Nat.le_refl _) fun b hb1 hb2 => by simp (disch := first | omega | (simp only [hN] <;> omega) | fail) only [go_sem, simprocAttr])
      | cons t ts' =>
        have c1 : decide (((ts'.length + 1 : Nat) : Int) > 0) = true := decide_eq_true (by omega)
        simp (disch := first | omega | (simp only [hN] <;> omega) | fail) only [go_sem, simprocAttr, c1]
        refine wrong_tok (hp2.loc (by omega) (by omega) q42) ?_
        intro h3 hf3
        have hn3 := hf3.n; try simp only [hN] at hn3
        have q43 : h3.get h.n = some ⟨1, .cells .own 0 (ndC n kv)⟩ := by simp (disch := first | omega | (simp only [hN] <;> omega) | fail) only [go_sem, simprocAttr, hf3.old]
        have q53 : h3.get (h.n + 1) = some ⟨1, .cells .own 0 [.nilIface, .int .i64 0]⟩ := by rw [hf3.old _ (by simp (disch := first | omega | (simp only [hN] <;> omega) | fail) only [go_sem, simprocAttr]; omega) (by simp (disch := first | omega | (simp only [hN] <;> omega) | fail) only [go_sem, simprocAttr]; omega), AHeap.get_upd, if_neg (by omega)]; exact q52
        simp (disch := first | omega | (simp only [hN] <;> omega) | fail) only [go_sem, simprocAttr, List.append_nil, List.nil_append]
        refine trecover_stop (n := n) q43 q53 (by omega) (by omega) (by omega) ?_
        rintro h4 hn4 hf4 ⟨v3, q44⟩ ⟨v4, q54⟩
        simp (disch := first | omega | (simp only [hN] <;> omega) | fail) only [go_sem, simprocAttr, q44, q54]
        refine hQ _ ⟨by omega, fun b hb _ => ?_⟩
        rw [hf4 _ (by omega) (by omega) (by omega), hf3.old _ (by simp (disch := first | omega | (simp only [hN] <;> omega) | fail) only [go_sem, simprocAttr]; omega) (by simp (disch := first | omega | (simp only [hN] <;> omega) | fail) only [go_sem, simprocAttr]; omega), AHeap.get_upd, if_neg (by omega), hf2.old _ (by omega) (by omega)]
        exact hf _ hb
theorem expr_read {s : Bs} (hlen : s.length < 2 ^ 62) {h : AHeap} (hG : GH h) {Q : QR} (hQ : ReadQ h Q (exprS s)) : WF F 19 [.str s] h Q := by
  refine WF.code F19 rfl ?_
  simp (disch := first | omega | (simp only [hN] <;> omega) | fail) only [go_sem, simprocAttr]
  refine read_tok (p := exprP) (fun E f => exprOf_tok (unary_tok f)) (fun E f => exprP_fine f) hlen ((hG.alloc _).alloc _) ?_
  change ReadQ _ _ (exprS s)
  cases hx : exprS s with
  | error x =>
    obtain ⟨e, q⟩ := x
    rw [hx] at hQ
    intro h1 hf1
    have hn1 := hf1.n; try simp only [hN] at hn1
    simp (disch := first | omega | (simp only [hN] <;> omega) | fail) only [go_sem, simprocAttr, hf1.old]
    exact hQ _ ⟨by first | omega | (simp only [hN]; omega), fun b hb hne => by (try simp only [hN] at hb hne); simp (disch := first | omega | (simp only [hN] <;> omega) | fail) only [go_sem, simprocAttr, hf1.old]⟩
  | ok n =>
    rw [hx] at hQ
    intro h1 kv hf1 hk1
    have hn1 := hf1.n; try simp only [hN] at hn1
    simp (disch := first | omega | (simp only [hN] <;> omega) | fail) only [go_sem, simprocAttr, hf1.old, hk1.flat.1, hk1.flat.2]
    exact hQ _ kv ⟨by first | omega | (simp only [hN]; omega), fun b hb hne => by (try simp only [hN] at hb hne); simp (disch := first | omega | (simp only [hN] <;> omega) | fail) only [go_sem, simprocAttr, hf1.old]⟩ (hk1.keep (by simp (disch := first | omega | (simp only [hN] <;> omega) | fail) only [go_sem, simprocAttr]; omega) (by simp (disch := first | omega | (simp only [hN] <;> omega) | fail) only [go_sem, simprocAttr]; exact Nat.le_refl _) fun b hb1 hb2 => by simp only [AHeap.alloc_n] at hb1; simp (disch := first | omega | (simp only [hN] <;> omega) | fail) only [go_sem, simprocAttr])
end Go.Ev
/- Kids that grow. -/
namespace Go.Ev
open Go
set_option maxRecDepth 100000
set_option maxHeartbeats 4000000

def blkV : AV → Option Nat
  | .slice b _ _ _ _ => some b
  | _ => none
/-- Kids in a row that grows. -/
def GKids (lo : Nat) (h : AHeap) (v : AV) (ns : List Nd) : Prop := ∃ css, Sl 9 lo h v ns.length css ∧ RowsS (fun x => lo ≤ x ∧ blkV v ≠ some x) h ns css
theorem GKids.nil {lo : Nat} {h : AHeap} : GKids lo h .nilSlice [] := ⟨[], Sl.nil, .nil⟩
theorem GKids.flat {lo : Nat} {h : AHeap} {v : AV} {ns : List Nd} (g : GKids lo h v ns) : v.flat = true ∧ v.cells = [v] := by
  obtain ⟨css, h1, _⟩ := g; exact h1.flat
theorem GKids.len {lo : Nat} {h : AHeap} {v : AV} {ns : List Nd} (g : GKids lo h v ns) : lenA v = some (ns.length : Int) := by
  obtain ⟨css, h1, _⟩ := g; exact h1.len
theorem GKids.keep {lo : Nat} {h h' : AHeap} {v : AV} {ns : List Nd} (g : GKids lo h v ns) (hn : h.n ≤ h'.n) (f : ∀ b ver es css, lo ≤ b → b < h.n → h.get b = some ⟨ver, .cells es 9 css⟩ → h'.get b = h.get b) : GKids lo h' v ns := by
  obtain ⟨css, ⟨h0, h1⟩, h2⟩ := g
  refine ⟨css, ⟨h0, h1.imp id ?_⟩, h2.keep9 (fun _ hb _ => hb) hn fun b ver md cs hb hl hg => f b ver md cs hb.1 hl hg⟩
  rintro ⟨hp, b, ver, e, g1, g2, g3⟩
  exact ⟨hp, b, ver, e, g1, Nat.lt_of_lt_of_le g2 hn, (f b ver _ _ g1 g2 g3).trans g3⟩
theorem GKids.fr {lo r : Nat} {h h' : AHeap} {v : AV} {ns : List Nd} (g : GKids lo h v ns) (f : Fr r h h') (hr : r < lo ∨ h.n ≤ r) : GKids lo h' v ns := g.keep f.n fun b _ _ _ h1 h2 _ => f.old b h2 (by omega)
theorem GKids.kids {lo : Nat} {h : AHeap} {v : AV} {ns : List Nd} (g : GKids lo h v ns) (hs : ns.length < 2 ^ 61) : KidsR lo h ns v := by
  obtain ⟨css, ⟨h0, h1⟩, h2⟩ := g
  rcases h1 with ⟨e, rfl⟩ | ⟨hp, b, ver, rfl, g1, g2, g3⟩
  · have : ns = [] := List.length_eq_zero_iff.1 e
    subst this; exact .nil
  · exact KidsS.own (by intro e; rw [e] at hp; simp at hp) hs g1 g2 g3 (h2.keep9 (fun _ hb _ => hb.1) (Nat.le_refl _) fun _ _ _ _ _ _ _ => rfl)
theorem RowsS.app {S : Nat → Prop} {h : AHeap} : {ns : List Nd} → {css : List AV} → RowsS S h ns css → {n : Nd} → {kv : AV} → KidsS S h n.kids kv → RowsS S h (ns ++ [n]) (css ++ ndC n kv)
  | _, _, .nil, n, kv, k => by
    have := RowsS.cons k (RowsS.nil (S := S) (h := h))
    rwa [List.append_nil] at this
  | _, _, .cons k0 r, n, kv, k => by
    rw [List.cons_append, List.append_assoc]
    exact .cons k0 (r.app k)
theorem Sl.app2 {es lo n bytes : Nat} {h : AHeap} {v : AV} {cs new : List AV} (s : Sl es lo h v n cs) (hlo : lo ≤ h.n) (hnew : new.length = es) (hflat : allFlat new = true) (hroom : (n + 1) * bytes ≤ room) (hn : n + 1 ≤ room) :
    ∃ h', appendA h es bytes v 1 new = some (.slice h.n 0 (n + 1) (n + 1) false, h') ∧ Sl es lo h' (.slice h.n 0 (n + 1) (n + 1) false) (n + 1) (cs ++ new) ∧ h'.n = h.n + 1 ∧ h'.get h.n = some ⟨0, .cells .own es (cs ++ new)⟩ ∧ ∀ b, b < h.n → blkV v ≠ some b → h'.get b = h.get b := by
  obtain ⟨hl, ⟨rfl, rfl⟩ | ⟨hpos, b, ver, rfl, h1, h2, h3⟩⟩ := s
  · have hcs : cs = [] := List.length_eq_zero_iff.1 (by simpa using hl)
    subst hcs
    refine ⟨h.alloc (.cells .own es new), ?_, ⟨by simp [hnew], .inr ⟨by omega, h.n, 0, rfl, hlo, by rw [AHeap.alloc_n]; omega, by rw [AHeap.get_alloc, if_pos rfl]; rfl⟩⟩, rfl, by rw [AHeap.get_alloc, if_pos rfl]; rfl, fun b hb _ => by rw [AHeap.get_alloc, if_neg (by omega)]⟩
    simp only [appendA, hnew, hflat, beq_nat, ble_nat, Nat.one_mul, decide_true, Bool.not_true, Bool.or_false, cond_false, Nat.add_one_ne_zero, decide_false, cond_true]
    rw [decide_eq_true (show 1 ≤ room by decide), decide_eq_true (show bytes ≤ room by omega)]
    rfl
  · have hrow : row cs 0 (n * es) = some cs := by
      rw [← hl]
      simp [row, ble_nat]
    refine ⟨(h.upd b (ver + 1) .dead).alloc (.cells .own es (cs ++ new)), ?_, ⟨by rw [List.length_append, hl, hnew]; exact (Nat.succ_mul n es).symm, .inr ⟨by omega, h.n, 0, rfl, by omega, by rw [AHeap.alloc_n, AHeap.upd_n]; omega, by rw [AHeap.get_alloc, AHeap.upd_n, if_pos rfl]⟩⟩, rfl, by rw [AHeap.get_alloc, AHeap.upd_n, if_pos rfl], fun b' hb hne => by rw [AHeap.get_alloc, if_neg (by rw [AHeap.upd_n]; omega), AHeap.get_upd, if_neg (by rintro rfl; exact hne rfl)]⟩
    have e1 : ¬ n + 1 ≤ n := by omega
    have e2 : ¬ n = 0 := by omega
    simp only [appendA, h3, hnew, hflat, hrow, beq_nat, ble_nat, Nat.one_mul, decide_true, Bool.not_true, Bool.or_false, cond_false, Nat.add_one_ne_zero, decide_false, cond_true, e1, e2, decide_eq_true hroom, decide_eq_true hn, Bool.and_true]
theorem Sl.blk {es lo n : Nat} {h : AHeap} {v : AV} {cs : List AV} (s : Sl es lo h v n cs) {b : Nat} (hb : blkV v = some b) : lo ≤ b ∧ b < h.n := by
  obtain ⟨_, ⟨_, rfl⟩ | ⟨_, c, ver, rfl, h1, h2, _⟩⟩ := s
  · cases hb
  · cases hb; exact ⟨h1, h2⟩
theorem GKids.blk {lo : Nat} {h : AHeap} {v : AV} {ns : List Nd} (g : GKids lo h v ns) {b : Nat} (hb : blkV v = some b) : lo ≤ b ∧ b < h.n := by
  obtain ⟨css, h1, _⟩ := g; exact h1.blk hb
/-- One more kid. -/
theorem GKids.append {lo m : Nat} {h : AHeap} {v kv : AV} {ns : List Nd} {n : Nd} (g : GKids lo h v ns) (hlo : lo ≤ h.n) (hs : ns.length < 2 ^ 36) (hk : KidsR m h n.kids kv) (hm : lo ≤ m) (hv : ∀ b, blkV v = some b → b < m) :
    ∃ v' h', appendA h 9 96 v 1 (ndC n kv) = some (v', h') ∧ GKids lo h' v' (ns ++ [n]) ∧ blkV v' = some h.n ∧ h'.n = h.n + 1 ∧ ∀ b, b < h.n → blkV v ≠ some b → h'.get b = h.get b := by
  obtain ⟨css, hsl, hr⟩ := g
  obtain ⟨h', h1, h2, h3, h4, h5⟩ := hsl.app2 (bytes := 96) (new := ndC n kv) hlo rfl (by simp only [ndC, allFlat, List.all_cons, List.all_nil, hk.flat.1]; rfl) (by simp only [room]; omega) (by simp only [room]; omega)
  refine ⟨_, h', h1, ⟨css ++ ndC n kv, ?_, ?_⟩, rfl, h3, h5⟩
  · rw [List.length_append]; exact h2
  · refine RowsS.app (hr.keep9 (fun b hb hl => ⟨hb.1, by simp [blkV]; omega⟩) (by omega) fun b _ _ _ hb hl _ => h5 b hl hb.2) (KidsS.keep9 (fun b hb hl => ⟨Nat.le_trans hm hb, by simp [blkV]; omega⟩) (by omega) (fun b _ _ _ hb hl _ => h5 b hl ?_) hk)
    intro e
    have := hv b e
    omega
end Go.Ev
/- The tree's reader: types, sizes, arguments. -/
namespace Go.Ev
open Go
set_option maxRecDepth 100000
set_option maxHeartbeats 4000000

theorem PInv.le {h h' : AHeap} {r E lv : Nat} {ts : List Tok} (p : PInv h r E ts lv) (hn : h.n ≤ h'.n) (f : ∀ b, b ≤ r → h'.get b = h.get b) : PInv h' r E ts lv := by
  obtain ⟨ver, v, h1, h2⟩ := p.st
  have hi := p.hi
  have lo := p.lo
  refine ⟨⟨by have := p.gh.n; omega, fun g hg => (f g (by omega)).trans (p.gh.gl g hg), fun g hg => (f _ (by omega)).trans (p.gh.st g hg)⟩, p.lo, by omega, p.lvl, ver, v, (f r (Nat.le_refl _)).trans h1, ?_⟩
  · rcases h2 with q | ⟨b, ver, k, all, h1, h2, h4, h5⟩
    · exact .inl q
    · exact .inr ⟨b, ver, k, all, h1, h2, by rw [f b (by omega)]; exact h4, h5⟩
/-- What a function of the reader gives beside a node. -/
def PX {α : Type} (h : AHeap) (r E lv : Nat) (Q : QR) (P : α → AHeap → Prop) : Except Err (α × List Tok) → Prop
  | .error (e, p) => ∀ h', Fr r h h' → Q (treeStop e p) h'
  | .ok (x, ts') => ∀ h', Fr r h h' → PInv h' r E ts' lv → P x h'
def typWs : List Bs := [[105, 110, 116], [102, 108, 111, 97, 116], [98, 111, 111, 108]]
theorem typN_find (t : Tok) (hk : t.kind = 2) : findW t.text typWs 0 + 1 = (typN t : Int) := by
  unfold typN typWs
  rw [if_pos hk]
  by_cases c1 : t.text = [105, 110, 116]
  · rw [c1]; rfl
  by_cases c2 : t.text = [102, 108, 111, 97, 116]
  · rw [c2]; rfl
  by_cases c3 : t.text = [98, 111, 111, 108]
  · rw [c3]; rfl
  rw [if_neg c1, if_neg c2, if_neg c3]
  have e1 : (t.text == [105, 110, 116]) = false := by simp [c1]
  have e2 : (t.text == [102, 108, 111, 97, 116]) = false := by simp [c2]
  have e3 : (t.text == [98, 111, 111, 108]) = false := by simp [c3]
  simp [findW, e1, e2, e3]
theorem typ_tok {E r lv : Nat} {ts : List Tok} {h : AHeap} (hp : PInv h r E ts lv) {Q : QR} (hQ : PX h r E lv Q (fun (y : Nat) h' => Q (.ret (.int .i64 (y : Int))) h') (typP E ts)) : WF F 82 [.ptr r 0] h Q := by
  refine WF.code F82 rfl ?_
  have hlt := hp.hi
  simp (disch := first | omega | (simp only [hN] <;> omega) | fail) only [go_sem, simprocAttr]
  refine here_tok (hp.fr ⟨by first | omega | (simp only [hN]; omega), fun b hb hne => by (try simp only [hN] at hb hne); simp (disch := first | omega | (simp only [hN] <;> omega) | fail) only [go_sem, simprocAttr]⟩) ?_
  intro h1 hf1
  have hn1 := hf1.n; try simp only [hN] at hn1
  have hb1 : h1.get h.n = some ⟨0, .cells .own 1 (typWs.map .str)⟩ := by simp (disch := first | omega | (simp only [hN] <;> omega) | fail) only [go_sem, simprocAttr, hf1.old]; rfl
  have hp1 : PInv h1 r E ts lv := hp.fr ⟨by first | omega | (simp only [hN]; omega), fun b hb hne => by (try simp only [hN] at hb hne); simp (disch := first | omega | (simp only [hN] <;> omega) | fail) only [go_sem, simprocAttr, hf1.old]⟩
  have hf : ∀ b', b' < h.n → h1.get b' = h.get b' := fun b' hb' => by simp (disch := first | omega | (simp only [hN] <;> omega) | fail) only [go_sem, simprocAttr, hf1.old]
  clear hf1
  simp (disch := first | omega | (simp only [hN] <;> omega) | fail) only [go_sem, simprocAttr, tokAV]
  refine sIndex (ws := typWs) hb1 (by decide) ?_
  simp (disch := first | omega | (simp only [hN] <;> omega) | fail) only [go_sem, simprocAttr]
  refine here_tok hp1 ?_
  intro h2 hf2
  have hn2 := hf2.n; try simp only [hN] at hn2
  have hp2 := hp1.fr hf2
  unfold typP at hQ
  by_cases hk : (hdT E ts).kind = 2
  · have hfd := typN_find _ hk
    have ek : (((hdT E ts).kind : Int) != 2) = false := by simp; omega
    by_cases hy : typN (hdT E ts) = 0
    · rw [if_pos hy] at hQ
      have el : decide (findW (hdT E ts).text typWs 0 < 0) = true := decide_eq_true (by omega)
      simp (disch := first | omega | (simp only [hN] <;> omega) | fail) only [go_sem, simprocAttr, tokAV, ek, el]
      refine wrong_tok hp2 ?_
      intro h3 hf3
      have hn3 := hf3.n; try simp only [hN] at hn3
      simp (disch := first | omega | (simp only [hN] <;> omega) | fail) only [go_sem, simprocAttr]
      exact hQ _ ⟨by first | omega | (simp only [hN]; omega), fun b hb hne => by (try simp only [hN] at hb hne); simp (disch := first | omega | (simp only [hN] <;> omega) | fail) only [go_sem, simprocAttr, hf3.old, hf2.old, hf]⟩
    · rw [if_neg hy] at hQ
      have el : decide (findW (hdT E ts).text typWs 0 < 0) = false := decide_eq_false (by omega)
      obtain ⟨ver, v, hr, ht⟩ := hp2.st
      obtain ⟨c, o, vc, cs, rfl, hc, hcr, ht'⟩ := ht.slc (hdT_ne (E := E) (by omega))
      have hpos : 0 < ts.length := List.length_pos_iff.2 (hdT_ne (E := E) (by omega))
      have c1 : bnd (some (.int .i64 1)) 0 ts.length = some 1 := bnd_num (i := 1) (by omega)
      have c2 : ts.length.beq 0 = false := by rw [beq_nat]; exact decide_eq_false (by omega)
      have e1 : (1 + findW (hdT E ts).text typWs 0) = (typN (hdT E ts) : Int) := by omega
      have hb3 : typN (hdT E ts) ≤ 3 := by unfold typN; (repeat' split) <;> omega
      simp (disch := first | omega | (simp only [hN] <;> omega) | fail) only [go_sem, simprocAttr, tokAV, ek, el, hr, hc, c1, c2, Option.isSome_none, Bool.and_false, cond_false, e1]
      exact hQ _ ⟨by first | omega | (simp only [hN]; omega), fun b hb hne => by (try simp only [hN] at hb hne); simp (disch := first | omega | (simp only [hN] <;> omega) | fail) only [go_sem, simprocAttr, hf2.old, hf]⟩ (hp2.step (ver := ver + 1) (Fr.upd _ _ _) (by simp (disch := first | omega | (simp only [hN] <;> omega) | fail) only [go_sem, simprocAttr]) ht' hp.lvl)
  · have hy : typN (hdT E ts) = 0 := by unfold typN; rw [if_neg hk]
    rw [if_pos hy] at hQ
    have ek : (((hdT E ts).kind : Int) != 2) = true := by simp; omega
    simp (disch := first | omega | (simp only [hN] <;> omega) | fail) only [go_sem, simprocAttr, tokAV, ek]
    refine wrong_tok hp2 ?_
    intro h3 hf3
    have hn3 := hf3.n; try simp only [hN] at hn3
    simp (disch := first | omega | (simp only [hN] <;> omega) | fail) only [go_sem, simprocAttr]
    exact hQ _ ⟨by first | omega | (simp only [hN]; omega), fun b hb hne => by (try simp only [hN] at hb hne); simp (disch := first | omega | (simp only [hN] <;> omega) | fail) only [go_sem, simprocAttr, hf3.old, hf2.old, hf]⟩
theorem sized_tok {E r lv : Nat} {ts : List Tok} {h : AHeap} (hp : PInv h r E ts lv) {Q : QR} (hQ : PX h r E lv Q (fun (y : Nat) h' => Q (.ret (.int .i64 (y : Int))) h') (sizedP E ts)) : WF F 81 [.ptr r 0] h Q := by
  refine WF.code F81 rfl ?_
  have hlt := hp.hi
  simp (disch := first | omega | (simp only [hN] <;> omega) | fail) only [go_sem, simprocAttr]
  unfold sizedP mustP takeP at hQ
  refine must_tok hp ?_
  by_cases c1 : isT [[91]] ts = true
  · rw [if_pos c1] at hQ ⊢
    simp only at hQ
    intro h1 hf1 hp1
    have hn1 := hf1.n; try simp only [hN] at hn1
    simp (disch := first | omega | (simp only [hN] <;> omega) | fail) only [go_sem, simprocAttr]
    refine take_tok (k := 3) hp1 (by decide) ?_
    by_cases c2 : (hdT E ts.tail).kind = 3
    · rw [if_pos c2] at hQ ⊢
      simp only at hQ
      intro h2 hf2 hp2
      have hn2 := hf2.n; try simp only [hN] at hn2
      simp (disch := first | omega | (simp only [hN] <;> omega) | fail) only [go_sem, simprocAttr, tokAV]
      refine must_tok hp2 ?_
      by_cases c3 : isT [[93]] ts.tail.tail = true
      · rw [if_pos c3] at hQ ⊢
        intro h3 hf3 hp3
        have hn3 := hf3.n; try simp only [hN] at hn3
        simp (disch := first | omega | (simp only [hN] <;> omega) | fail) only [go_sem, simprocAttr]
        exact hQ _ ((hf1.trans hf2).trans hf3) hp3
      · rw [if_neg c3] at hQ ⊢
        intro h3 hf3
        simp (disch := first | omega | (simp only [hN] <;> omega) | fail) only [go_sem, simprocAttr]
        exact hQ _ ((hf1.trans hf2).trans hf3)
    · rw [if_neg c2] at hQ ⊢
      intro h2 hf2
      simp (disch := first | omega | (simp only [hN] <;> omega) | fail) only [go_sem, simprocAttr]
      exact hQ _ (hf1.trans hf2)
  · rw [if_neg c1] at hQ ⊢
    intro h1 hf1
    simp (disch := first | omega | (simp only [hN] <;> omega) | fail) only [go_sem, simprocAttr]
    exact hQ _ hf1
theorem exprT_tok {E : Nat} : PSpec 38 E (exprT E) := by
  intro h r lv ts Q hp hz hQ
  exact exprOf_tok (unary_tok (ts.length + 1)) hp hz hQ
theorem args_tok {E r lv : Nat} {ts : List Tok} {h : AHeap} (hp : PInv h r E ts lv) (hsm : ts.length ≤ 2000) {Q : QR} (hQ : PX h r E lv Q (fun ns h' => ∀ v, KidsR h.n h' ns v → Q (.ret v) h') (argsP E lv ts)) : WF F 117 [.ptr r 0] h Q := by
  refine WF.code F117 rfl ?_
  have hlt := hp.hi
  simp (disch := first | omega | (simp only [hN] <;> omega) | fail) only [go_sem, simprocAttr]
  unfold argsP openP at hQ
  refine open_tok hp ?_
  by_cases c1 : isT [[40]] ts = true
  · rw [if_pos c1] at hQ ⊢
    by_cases h16 : lv = 16
    · rw [if_pos h16] at hQ ⊢
      intro h1 hf1
      simp (disch := first | omega | (simp only [hN] <;> omega) | fail) only [go_sem, simprocAttr]
      exact hQ _ hf1
    · rw [if_neg h16] at hQ ⊢
      simp only at hQ
      intro h1 hf1 hp1
      have hn1 := hf1.n; try simp only [hN] at hn1
      have hlt1 := hp1.hi
      have htl : ts.tail.length ≤ 2000 := by rw [List.length_tail]; omega
      generalize ts.tail = ts1 at *
      simp (disch := first | omega | (simp only [hN] <;> omega) | fail) only [go_sem, simprocAttr]
      refine is_tok (ws := [[41]]) (md := .own) (ver := 0) (E := E) (ts := ts1) (lv := lv + 1) (hp1.fr ⟨by first | omega | (simp only [hN]; omega), fun b hb hne => by (try simp only [hN] at hb hne); simp (disch := first | omega | (simp only [hN] <;> omega) | fail) only [go_sem, simprocAttr]⟩) (by (first | (simp (disch := first | omega | (simp only [hN] <;> omega) | fail) only [go_sem, simprocAttr, List.map]; done) | (simp (disch := first | omega | (simp only [hN] <;> omega) | fail) only [go_sem, simprocAttr, List.map]; rfl))) (by simp (disch := first | omega | (simp only [hN] <;> omega) | fail) only [go_sem, simprocAttr]; omega) (show 1 < 2 ^ 62 by decide) ?_
      intro h2 hf2
      have hn2 := hf2.n; try simp only [hN] at hn2
      have hp2 : PInv h2 r E ts1 (lv + 1) := hp1.fr ⟨by first | omega | (simp only [hN]; omega), fun b hb hne => by (try simp only [hN] at hb hne); simp (disch := first | omega | (simp only [hN] <;> omega) | fail) only [go_sem, simprocAttr, hf2.old]⟩
      have hfo : ∀ b', b' < h.n → b' ≠ r → h2.get b' = h.get b' := fun b' hb1 hb2 => by simp (disch := first | omega | (simp only [hN] <;> omega) | fail) only [go_sem, simprocAttr, hf2.old, hf1.old]
      have hR : ∃ R, commaP E (exprT E (lv + 1)) ts1 = R := ⟨_, rfl⟩
      obtain ⟨R, hR⟩ := hR
      rw [hR] at hQ
      have hz : R ≠ .error (0, 0) := by
        rw [← hR]
        exact (commaP_fine (E := E) (x := exprT E (lv + 1)) (fun ts => exprT_fine (lv + 1) ts) ts1).ne
      obtain ⟨f, bm, hfl, hbm, hfm⟩ : ∃ f bm, f ≤ 2001 ∧ isT [[41]] ts1 = !bm ∧ ((bm = true ∧ commaL E (exprT E (lv + 1)) f [] ts1 = R) ∨ (bm = false ∧ R = .ok ([], ts1))) := by
        unfold commaP at hR
        cases hi : isT [[41]] ts1 with
        | true => rw [if_pos hi] at hR; exact ⟨0, false, by omega, rfl, .inr ⟨rfl, hR.symm⟩⟩
        | false => rw [if_neg (by rw [hi]; decide)] at hR; exact ⟨_, true, by omega, rfl, .inl ⟨rfl, hR⟩⟩
      rw [hbm]
      simp (disch := first | omega | (simp only [hN] <;> omega) | fail) only [go_sem, simprocAttr, Bool.not_not]
      have hn0 : h.n ≤ h2.n := by omega
      clear hf2 hp1 hbm hR hn1
      refine wp_loopx 0 (fun g a h' => ∃ b v ns ts2, GKids h.n h' v ns ∧ PInv h' r E ts2 (lv + 1) ∧ h.n ≤ h'.n ∧ (∀ b', b' < h.n → b' ≠ r → h'.get b' = h.get b') ∧ ns.length + g ≤ 2001 ∧ ((b = true ∧ commaL E (exprT E (lv + 1)) g ns ts2 = R) ∨ (b = false ∧ R = .ok (ns, ts2))) ∧ a.tm.get 0 = some (.ptr r 0) ∧ a.tm.get 3 = some v ∧ a.tm.get 4 = some (.bool b) ∧ a.df = [])
        (fun a h' => ∃ v ns ts2, GKids h.n h' v ns ∧ PInv h' r E ts2 (lv + 1) ∧ h.n ≤ h'.n ∧ (∀ b', b' < h.n → b' ≠ r → h'.get b' = h.get b') ∧ ns.length ≤ 2001 ∧ R = .ok (ns, ts2) ∧ a.tm.get 0 = some (.ptr r 0) ∧ a.tm.get 3 = some v ∧ a.df = []) ?_ ?_ f ?_
      · rintro g ⟨t, df⟩ h3 ⟨b, v, ns, ts2, hg, hp3, hn3, hf3, hlen, hc, k0, k3, k4, hdf⟩
        simp only at k0 k3 k4 hdf
        subst hdf
        have hlt3 := hp3.hi
        rcases hc with ⟨rfl, hcl⟩ | ⟨rfl, hcl⟩
        · cases g with
          | zero => exact absurd hcl.symm hz
          | succ g =>
            rw [commaL] at hcl
            simp (disch := first | omega | (simp only [hN] <;> omega) | fail) only [go_sem, simprocAttr, k0, k3, k4]
            have hxn : exprT E (lv + 1) ts2 ≠ .error (0, 0) := (exprT_fine (E := E) (lv + 1) ts2).ne
            refine exprT_tok hp3 hxn ?_
            cases hx : exprT E (lv + 1) ts2 with
            | error e =>
              obtain ⟨e, p⟩ := e
              rw [hx] at hcl
              simp only at hcl
              rw [← hcl] at hQ
              intro h4 hf4
              simp (disch := first | omega | (simp only [hN] <;> omega) | fail) only [go_sem, simprocAttr]
              exact hQ _ ⟨by have := hf4.n; omega, fun b hb hne => by rw [hf4.old b (by omega) hne, hf3 b hb hne]⟩
            | ok y =>
              obtain ⟨m, ts3⟩ := y
              rw [hx] at hcl
              simp only at hcl
              intro h4 kv hf4 hp4 hk4
              have hn4 := hf4.n; try simp only [hN] at hn4
              simp (disch := first | omega | (simp only [hN] <;> omega) | fail) only [go_sem, simprocAttr, hk4.flat.1, hk4.flat.2]
              have hg4 : GKids h.n (h4.alloc (.cells .own 9 (ndC m kv))) v ns := (hg.fr hf4 (.inl hlt)).fr (Fr.alloc (Fr.refl h4.n h4) _) (.inr (Nat.le_refl _))
              obtain ⟨v5, h5, happ, hg5, hb5, hn5, ho5⟩ := hg4.append (by simp (disch := first | omega | (simp only [hN] <;> omega) | fail) only [go_sem, simprocAttr]; omega) (by omega) (hk4.keep (lo' := h3.n) (Nat.le_refl _) (by simp (disch := first | omega | (simp only [hN] <;> omega) | fail) only [go_sem, simprocAttr]; omega) fun b hb1 hb2 => by simp (disch := first | omega | (simp only [hN] <;> omega) | fail) only [go_sem, simprocAttr]) hn3 (fun b hb => (hg.blk hb).2)
              have hf5 : ∀ b', b' < h.n → b' ≠ r → h5.get b' = h.get b' := fun b' hb1 hb2 => by
                rw [ho5 b' (by simp (disch := first | omega | (simp only [hN] <;> omega) | fail) only [go_sem, simprocAttr]; omega) (fun e => by have := hg.blk e; omega)]
                simp (disch := first | omega | (simp only [hN] <;> omega) | fail) only [go_sem, simprocAttr, hf4.old, hf3]
              have hp5 : PInv h5 r E ts3 (lv + 1) := hp4.le (by rw [hn5]; simp (disch := first | omega | (simp only [hN] <;> omega) | fail) only [go_sem, simprocAttr]; omega) fun b hb => by
                rw [ho5 b (by simp (disch := first | omega | (simp only [hN] <;> omega) | fail) only [go_sem, simprocAttr]; omega) (fun e => by have := hg.blk e; omega)]
                simp (disch := first | omega | (simp only [hN] <;> omega) | fail) only [go_sem, simprocAttr]
              simp only [AHeap.alloc_n] at hn5
              simp (disch := first | omega | (simp only [hN] <;> omega) | fail) only [go_sem, simprocAttr, ndC] at happ
              simp (disch := first | omega | (simp only [hN] <;> omega) | fail) only [go_sem, simprocAttr, happ, k0, k3, k4]
              refine maybe_tok hp5 ?_
              by_cases c3 : isT [[44]] ts3 = true
              · rw [if_pos c3] at hcl ⊢
                intro h6 hf6 hp6
                have hn6 := hf6.n; try simp only [hN] at hn6
                simp (disch := first | omega | (simp only [hN] <;> omega) | fail) only [go_sem, simprocAttr, k0, k3, k4]
                exact ⟨g, Nat.lt_succ_self _, true, v5, ns ++ [m], _, hg5.fr hf6 (.inl hlt), hp6, by omega, fun b hb1 hb2 => by rw [hf6.old b (by omega) hb2, hf5 b hb1 hb2], by simp; omega, .inl ⟨rfl, hcl⟩, rfl, rfl⟩
              · rw [if_neg c3] at hcl ⊢
                intro h6 hf6
                have hn6 := hf6.n; try simp only [hN] at hn6
                simp (disch := first | omega | (simp only [hN] <;> omega) | fail) only [go_sem, simprocAttr, k0, k3, k4]
                exact ⟨g, Nat.lt_succ_self _, false, v5, ns ++ [m], _, hg5.fr hf6 (.inr (Nat.le_refl _)), hp5.fr hf6, by omega, fun b hb1 hb2 => by rw [hf6.all (by omega), hf5 b hb1 hb2], by simp; omega, .inr ⟨rfl, hcl.symm⟩, rfl, rfl⟩
        · simp (disch := first | omega | (simp only [hN] <;> omega) | fail) only [go_sem, simprocAttr, k0, k3, k4]
          exact ⟨v, ns, ts2, hg, hp3, hn3, hf3, by omega, hcl, rfl⟩
      · rintro ⟨t, df⟩ h3 ⟨v, ns, ts2, hg, hp3, hn3, hf3, hlen, hcl, k0, k3, hdf⟩
        simp only at k0 k3 hdf
        subst hdf
        rw [hcl] at hQ
        simp only [mustP] at hQ
        simp (disch := first | omega | (simp only [hN] <;> omega) | fail) only [go_sem, simprocAttr, k0, k3]
        refine close_tok (lv := lv) hp3 ?_
        by_cases c2 : isT [[41]] ts2 = true
        · rw [if_pos c2] at hQ ⊢
          intro h4 hf4 hp4
          have hn4 := hf4.n; try simp only [hN] at hn4
          simp (disch := first | omega | (simp only [hN] <;> omega) | fail) only [go_sem, simprocAttr, k3]
          exact hQ _ ⟨by omega, fun b hb hne => by rw [hf4.old b (by omega) hne, hf3 b hb hne]⟩ hp4 v ((hg.fr hf4 (.inl hlt)).kids (by omega))
        · rw [if_neg c2] at hQ ⊢
          intro h4 hf4
          have hn4 := hf4.n; try simp only [hN] at hn4
          simp (disch := first | omega | (simp only [hN] <;> omega) | fail) only [go_sem, simprocAttr]
          exact hQ _ ⟨by omega, fun b hb hne => by rw [hf4.old b (by omega) hne, hf3 b hb hne]⟩
      · refine ⟨bm, .nilSlice, [], ts1, GKids.nil, hp2, hn0, hfo, ?_, hfm, ?_⟩
        · simpa using hfl
        · simp (disch := first | omega | (simp only [hN] <;> omega) | fail) only [go_sem, simprocAttr]
  · rw [if_neg c1] at hQ ⊢
    intro h1 hf1
    simp (disch := first | omega | (simp only [hN] <;> omega) | fail) only [go_sem, simprocAttr]
    exact hQ _ hf1
end Go.Ev
/- The tree's reader: targets; statements of a keyword and a name; those that begin with a word. -/
namespace Go.Ev
open Go
set_option maxRecDepth 100000
set_option maxHeartbeats 4000000

/-- A function of the reader does what a parser does, of not too many tokens. -/
def PSpecT (fid E : Nat) (u : PT) : Prop := ∀ {h : AHeap} {r lv : Nat} {ts : List Tok} {Q : QR}, PInv h r E ts lv → ts.length ≤ 2000 → PQ h r E lv Q (u lv ts) → WF F fid [.ptr r 0] h Q
theorem nameP_ne {E : Nat} {lv : Nat} {ts : List Tok} (hne : ts ≠ []) : nameP E (exprP E (ts.length + 1)) lv ts ≠ .error (0, 0) := by
  unfold nameP
  split
  · have h1 := inP_fine (E := E) (a := [91]) (b := [93]) (exprP_fine (E := E) ts.length) lv ts.tail (by rw [List.length_tail]; omega)
    cases hx : inP E [91] [93] (exprP E (ts.length + 1)) lv ts.tail with
    | error e =>
      rw [hx] at h1
      intro e0
      simp only [Except.error.injEq] at e0
      subst e0
      rcases h1 with h | h <;> cases h
    | ok y => obtain ⟨k, ts'⟩ := y; intro e; cases e
  · intro e; cases e
theorem target_tok {E : Nat} : PSpecT 120 E (targetP E) := by
  intro h r lv ts Q hp hsm hQ
  unfold targetP at hQ
  by_cases hk : (hdT E ts).kind = 1
  · rw [if_pos hk] at hQ
    refine name_tok (exprOf_tok (unary_tok (ts.length + 1))) hp hk ?_ hQ
    exact nameP_ne (hdT_ne (E := E) (by omega))
  · rw [if_neg hk] at hQ
    refine WF.code F120 rfl ?_
    simp (disch := first | omega | (simp only [hN] <;> omega) | fail) only [go_sem, simprocAttr]
    refine take_tok (k := 1) (E := E) (lv := lv) (ts := ts) (hp.fr ⟨by first | omega | (simp only [hN]; omega), fun b hb hne => by (try simp only [hN] at hb hne); simp (disch := first | omega | (simp only [hN] <;> omega) | fail) only [go_sem, simprocAttr]⟩) (by decide) ?_
    rw [if_neg hk]
    intro h1 hf1
    have hn1 := hf1.n; try simp only [hN] at hn1
    simp (disch := first | omega | (simp only [hN] <;> omega) | fail) only [go_sem, simprocAttr]
    exact hQ _ ⟨by first | omega | (simp only [hN]; omega), fun b hb hne => by (try simp only [hN] at hb hne); simp (disch := first | omega | (simp only [hN] <;> omega) | fail) only [go_sem, simprocAttr, hf1.old]⟩
theorem named_tok {E kd what : Nat} (hw : what ≤ 2) {h : AHeap} {r lv : Nat} {ts : List Tok} {Q : QR} (hp : PInv h r E ts lv) (hne : ts ≠ []) (hsm : ts.length ≤ 2000) (hQ : PQ h r E lv Q (namedP E kd what lv ts)) : WF F 118 [.ptr r 0, .int .i64 (kd : Int), .int .i64 (what : Int)] h Q := by
  refine WF.code F118 rfl ?_
  have hlt := hp.hi
  simp (disch := first | omega | (simp only [hN] <;> omega) | fail) only [go_sem, simprocAttr]
  refine here_tok (hp.fr ⟨by first | omega | (simp only [hN]; omega), fun b hb hne => by (try simp only [hN] at hb hne); simp (disch := first | omega | (simp only [hN] <;> omega) | fail) only [go_sem, simprocAttr]⟩) ?_
  intro h1 hf1
  have hn1 := hf1.n; try simp only [hN] at hn1
  have hp1 : PInv h1 r E ts lv := hp.fr ⟨by first | omega | (simp only [hN]; omega), fun b hb hne => by (try simp only [hN] at hb hne); simp (disch := first | omega | (simp only [hN] <;> omega) | fail) only [go_sem, simprocAttr, hf1.old]⟩
  have hf : ∀ b', b' < h.n → h1.get b' = h.get b' := fun b' hb' => by simp (disch := first | omega | (simp only [hN] <;> omega) | fail) only [go_sem, simprocAttr, hf1.old]
  have q0 : h1.get h.n = some ⟨0, .cells .own 0 zN⟩ := by simp (disch := first | omega | (simp only [hN] <;> omega) | fail) only [go_sem, simprocAttr, hf1.old]
  clear hf1
  obtain ⟨ver, v, hr, ht⟩ := hp1.st
  obtain ⟨c, o, vc, cs, rfl, hc, hcr, ht'⟩ := ht.slc hne
  have hpos : 0 < ts.length := List.length_pos_iff.2 hne
  have c1 : bnd (some (.int .i64 1)) 0 ts.length = some 1 := bnd_num (i := 1) (by omega)
  have c2 : ts.length.beq 0 = false := by rw [beq_nat]; exact decide_eq_false (by omega)
  simp (disch := first | omega | (simp only [hN] <;> omega) | fail) only [go_sem, simprocAttr, tokAV, hr, hc, c1, c2, Option.isSome_none, Bool.and_false, cond_false]
  generalize hH : AHeap.upd (AHeap.upd _ _ _ _) r _ _ = H
  have hHn : H.n = h1.n + 1 := by rw [← hH]; simp (disch := first | omega | (simp only [hN] <;> omega) | fail) only [go_sem, simprocAttr]
  have hH1 : H.get h1.n = some ⟨1, .cells .own 0 [.int .i64 (kd : Int), .int .i64 ((hdT E ts).pos : Int), .str [], .int .i64 0, .int .i64 0, .int .i64 0, .int .i64 0, .int .u64 0, .nilSlice]⟩ := by rw [← hH]; simp (disch := first | omega | (simp only [hN] <;> omega) | fail) only [go_sem, simprocAttr]
  have hH0 : H.get h.n = some ⟨0, .cells .own 0 zN⟩ := by rw [← hH]; simp (disch := first | omega | (simp only [hN] <;> omega) | fail) only [go_sem, simprocAttr, q0]
  have hHf : ∀ b', b' < h.n → b' ≠ r → H.get b' = h.get b' := fun b' hb1 hb2 => by rw [← hH]; simp (disch := first | omega | (simp only [hN] <;> omega) | fail) only [go_sem, simprocAttr, hf]
  have hpH : PInv H r E ts.tail lv := by
    have g0 : PInv ((h1.alloc (.cells .own 0 zN)).upd h1.n 1 (.cells .own 0 [.int .i64 (kd : Int), .int .i64 ((hdT E ts).pos : Int), .str [], .int .i64 0, .int .i64 0, .int .i64 0, .int .i64 0, .int .u64 0, .nilSlice])) r E ts lv := hp1.le (by simp (disch := first | omega | (simp only [hN] <;> omega) | fail) only [go_sem, simprocAttr]; omega) fun b hb => by simp (disch := first | omega | (simp only [hN] <;> omega) | fail) only [go_sem, simprocAttr]
    rw [← hH]
    exact g0.step (ver := ver + 1) (Fr.upd _ _ _) (by simp (disch := first | omega | (simp only [hN] <;> omega) | fail) only [go_sem, simprocAttr]) (ht'.fr (q := h1.n) (r := r) (h := h1) ⟨by simp (disch := first | omega | (simp only [hN] <;> omega) | fail) only [go_sem, simprocAttr]; omega, fun b hb hne => by simp (disch := first | omega | (simp only [hN] <;> omega) | fail) only [go_sem, simprocAttr]⟩ (by omega) (by omega)) hp1.lvl
  clear hH hr ht ht' hc hp1 hf q0
  have hsm1 : ts.tail.length ≤ 2000 := by rw [List.length_tail]; omega
  unfold namedP takeP mustP at hQ
  generalize (hdT E ts).pos = P at *
  generalize ts.tail = ts1 at *
  refine take_tok (k := 1) hpH (by decide) ?_
  by_cases hk : (hdT E ts1).kind = 1
  · rw [if_pos hk] at hQ ⊢
    simp only at hQ
    intro h2 hf2 hp2
    have hn2 := hf2.n; try simp only [hN] at hn2
    have r1 := (hf2.old h1.n (by omega) (by omega)).trans hH1
    have r0 := (hf2.old h.n (by omega) (by omega)).trans hH0
    have hsm2 : ts1.tail.length ≤ 2000 := by rw [List.length_tail]; omega
    simp (disch := first | omega | (simp only [hN] <;> omega) | fail) only [go_sem, simprocAttr, tokAV, r1]
    generalize (hdT E ts1).text = T at *
    generalize ts1.tail = ts2 at *
    by_cases w0 : what = 0
    · subst w0
      rw [if_pos rfl] at hQ
      have e0 : ((0 : Int) == 0) = true := rfl
      simp (disch := first | omega | (simp only [hN] <;> omega) | fail) only [go_sem, simprocAttr, e0, Int.natCast_zero, r0]
      refine hQ _ .nilSlice ⟨by first | omega | (simp only [hN]; omega), fun b hb hne => by (try simp only [hN] at hb hne); simp (disch := first | omega | (simp only [hN] <;> omega) | fail) only [go_sem, simprocAttr, hf2.old, hHf]⟩ (hp2.le (by simp (disch := first | omega | (simp only [hN] <;> omega) | fail) only [go_sem, simprocAttr]; omega) fun b hb => by simp (disch := first | omega | (simp only [hN] <;> omega) | fail) only [go_sem, simprocAttr]) .nil
    · rw [if_neg w0] at hQ
      have e0 : ((what : Int) == 0) = false := by simp; omega
      simp (disch := first | omega | (simp only [hN] <;> omega) | fail) only [go_sem, simprocAttr, e0]
      refine must_tok (hp2.le (h' := h2.upd h1.n 2 _) (by simp (disch := first | omega | (simp only [hN] <;> omega) | fail) only [go_sem, simprocAttr]; omega) fun b hb => by simp (disch := first | omega | (simp only [hN] <;> omega) | fail) only [go_sem, simprocAttr]) ?_
      by_cases c3 : isT [[44]] ts2 = true
      · rw [if_pos c3] at hQ ⊢
        simp only at hQ
        intro h3 hf3 hp3
        have hn3 := hf3.n; try simp only [hN] at hn3
        have s1 : h3.get h1.n = some ⟨2, .cells .own 0 [.int .i64 (kd : Int), .int .i64 (P : Int), .str T, .int .i64 0, .int .i64 0, .int .i64 0, .int .i64 0, .int .u64 0, .nilSlice]⟩ := by simp (disch := first | omega | (simp only [hN] <;> omega) | fail) only [go_sem, simprocAttr, hf3.old]
        have s0 : h3.get h.n = some ⟨0, .cells .own 0 zN⟩ := by simp (disch := first | omega | (simp only [hN] <;> omega) | fail) only [go_sem, simprocAttr, hf3.old, r0]
        have hf3' : ∀ b', b' < h.n → b' ≠ r → h3.get b' = h.get b' := fun b' hb1 hb2 => by simp (disch := first | omega | (simp only [hN] <;> omega) | fail) only [go_sem, simprocAttr, hf3.old, hf2.old, hHf]
        have hlt3 := hp3.hi
        have hsm3 : ts2.tail.length ≤ 2000 := by rw [List.length_tail]; omega
        clear r1 r0 hf2 hHf hp2 hpH hH1 hH0 hf3
        generalize ts2.tail = ts3 at *
        by_cases w1 : what = 1
        · subst w1
          simp only [if_true] at hQ
          have e1 : (((1 : Nat) : Int) == 1) = true := rfl
          simp (disch := first | omega | (simp only [hN] <;> omega) | fail) only [go_sem, simprocAttr, e1]
          refine exprT_tok hp3 (exprT_fine (E := E) lv ts3).ne ?_
          cases hx : exprT E lv ts3 with
          | error e =>
            obtain ⟨e, p⟩ := e
            rw [hx] at hQ
            intro h4 hf4
            have hn4 := hf4.n; try simp only [hN] at hn4
            simp (disch := first | omega | (simp only [hN] <;> omega) | fail) only [go_sem, simprocAttr]
            exact hQ _ ⟨by first | omega | (simp only [hN]; omega), fun b hb hne => by (try simp only [hN] at hb hne); simp (disch := first | omega | (simp only [hN] <;> omega) | fail) only [go_sem, simprocAttr, hf4.old, hf3']⟩
          | ok y =>
            obtain ⟨m, ts4⟩ := y
            rw [hx] at hQ
            intro h4 kv hf4 hp4 hk4
            have hn4 := hf4.n; try simp only [hN] at hn4
            have u1 := (hf4.old h1.n (by omega) (by omega)).trans s1
            have u0 := (hf4.old h.n (by omega) (by omega)).trans s0
            simp (disch := first | omega | (simp only [hN] <;> omega) | fail) only [go_sem, simprocAttr, u1, u0, hk4.flat.1, hk4.flat.2]
            refine hQ _ _ ⟨by first | omega | (simp only [hN]; omega), fun b hb hne => by (try simp only [hN] at hb hne); simp (disch := first | omega | (simp only [hN] <;> omega) | fail) only [go_sem, simprocAttr, hf4.old, hf3']⟩ (hp4.le (by simp (disch := first | omega | (simp only [hN] <;> omega) | fail) only [go_sem, simprocAttr]; omega) fun b hb => by simp (disch := first | omega | (simp only [hN] <;> omega) | fail) only [go_sem, simprocAttr]) ?_
            exact KidsR.one (ver := 0) (kv := kv) (hk4.keep (by omega) (by simp (disch := first | omega | (simp only [hN] <;> omega) | fail) only [go_sem, simprocAttr]; omega) fun b hb1 hb2 => by simp (disch := first | omega | (simp only [hN] <;> omega) | fail) only [go_sem, simprocAttr]) (by omega) (by simp (disch := first | omega | (simp only [hN] <;> omega) | fail) only [go_sem, simprocAttr]; omega) (by simp (disch := first | omega | (simp only [hN] <;> omega) | fail) only [go_sem, simprocAttr])
        · have w2 : what = 2 := by omega
          subst w2
          simp only [if_neg (show ¬ 2 = 1 by decide)] at hQ
          have e1 : (((2 : Nat) : Int) == 1) = false := rfl
          simp (disch := first | omega | (simp only [hN] <;> omega) | fail) only [go_sem, simprocAttr, e1]
          refine target_tok hp3 hsm3 ?_
          cases hx : targetP E lv ts3 with
          | error e =>
            obtain ⟨e, p⟩ := e
            rw [hx] at hQ
            intro h4 hf4
            have hn4 := hf4.n; try simp only [hN] at hn4
            simp (disch := first | omega | (simp only [hN] <;> omega) | fail) only [go_sem, simprocAttr]
            exact hQ _ ⟨by first | omega | (simp only [hN]; omega), fun b hb hne => by (try simp only [hN] at hb hne); simp (disch := first | omega | (simp only [hN] <;> omega) | fail) only [go_sem, simprocAttr, hf4.old, hf3']⟩
          | ok y =>
            obtain ⟨m, ts4⟩ := y
            rw [hx] at hQ
            intro h4 kv hf4 hp4 hk4
            have hn4 := hf4.n; try simp only [hN] at hn4
            have u1 := (hf4.old h1.n (by omega) (by omega)).trans s1
            have u0 := (hf4.old h.n (by omega) (by omega)).trans s0
            simp (disch := first | omega | (simp only [hN] <;> omega) | fail) only [go_sem, simprocAttr, u1, u0, hk4.flat.1, hk4.flat.2]
            refine hQ _ _ ⟨by first | omega | (simp only [hN]; omega), fun b hb hne => by (try simp only [hN] at hb hne); simp (disch := first | omega | (simp only [hN] <;> omega) | fail) only [go_sem, simprocAttr, hf4.old, hf3']⟩ (hp4.le (by simp (disch := first | omega | (simp only [hN] <;> omega) | fail) only [go_sem, simprocAttr]; omega) fun b hb => by simp (disch := first | omega | (simp only [hN] <;> omega) | fail) only [go_sem, simprocAttr]) ?_
            exact KidsR.one (ver := 0) (kv := kv) (hk4.keep (by omega) (by simp (disch := first | omega | (simp only [hN] <;> omega) | fail) only [go_sem, simprocAttr]; omega) fun b hb1 hb2 => by simp (disch := first | omega | (simp only [hN] <;> omega) | fail) only [go_sem, simprocAttr]) (by omega) (by simp (disch := first | omega | (simp only [hN] <;> omega) | fail) only [go_sem, simprocAttr]; omega) (by simp (disch := first | omega | (simp only [hN] <;> omega) | fail) only [go_sem, simprocAttr])
      · rw [if_neg c3] at hQ ⊢
        intro h3 hf3
        have hn3 := hf3.n; try simp only [hN] at hn3
        simp (disch := first | omega | (simp only [hN] <;> omega) | fail) only [go_sem, simprocAttr]
        exact hQ _ ⟨by first | omega | (simp only [hN]; omega), fun b hb hne => by (try simp only [hN] at hb hne); simp (disch := first | omega | (simp only [hN] <;> omega) | fail) only [go_sem, simprocAttr, hf3.old, hf2.old, hHf]⟩
  · rw [if_neg hk] at hQ ⊢
    intro h2 hf2
    have hn2 := hf2.n; try simp only [hN] at hn2
    simp (disch := first | omega | (simp only [hN] <;> omega) | fail) only [go_sem, simprocAttr]
    exact hQ _ ⟨by first | omega | (simp only [hN]; omega), fun b hb hne => by (try simp only [hN] at hb hne); simp (disch := first | omega | (simp only [hN] <;> omega) | fail) only [go_sem, simprocAttr, hf2.old, hHf]⟩
end Go.Ev
