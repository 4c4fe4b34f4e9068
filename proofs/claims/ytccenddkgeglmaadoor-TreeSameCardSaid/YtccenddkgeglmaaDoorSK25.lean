/- The tree's reader: expressions. -/
import Derived.Test.YtccenddkgeglmaaDoorSK21
import Derived.Test.YtccenddkgeglmaaDoorPuA
set_option linter.all false
set_option linter.unusedVariables false
set_option linter.unusedSimpArgs false
namespace Go.Ev
open Go
set_option maxRecDepth 100000
set_option maxHeartbeats 4000000

theorem prod_tok {E : Nat} {u : PT} (hu : PSpec 119 E u) : PSpec 113 E (rowP true [[42], [47], [37]] u) := by
  intro h r lv ts Q hp hz hQ
  refine WF.code F113 rfl ?_
  have hlt := hp.hi
  simp (maxSteps := 9999999) (disch := first | omega | (simp only [hN] <;> omega) | fail) only [go_sem, simprocAttr, List.map]
  refine row_tok (ops := [[42], [47], [37]]) (ver := 0) hu (hp.fr (h' := (h.alloc (.cells .own 0 [.int .i64 0, .int .i64 0, .str [], .int .i64 0, .int .i64 0, .int .i64 0, .int .i64 0, .int .u64 0, .nilSlice])).alloc (.cells .own 1 (List.map .str [[42], [47], [37]]))) ⟨by (first | omega | (simp only [AHeap.alloc_n, AHeap.upd_n]; omega)), fun b hb hne => by (try simp only [AHeap.alloc_n, AHeap.upd_n] at hb hne); simp (maxSteps := 9999999) (disch := first | omega | (simp only [hN] <;> omega) | fail) only [go_sem, simprocAttr]⟩) (by (first | (simp (maxSteps := 9999999) (disch := first | omega | (simp only [hN] <;> omega) | fail) only [go_sem, simprocAttr, List.map]; done) | (simp (maxSteps := 9999999) (disch := first | omega | (simp only [hN] <;> omega) | fail) only [go_sem, simprocAttr, List.map]; rfl))) (by simp (maxSteps := 9999999) (disch := first | omega | (simp only [hN] <;> omega) | fail) only [go_sem, simprocAttr]; omega) (by omega) (show 3 < 2 ^ 62 by decide) hz ?_
  cases hy : rowP true [[42], [47], [37]] u lv ts with
  | error e =>
    obtain ⟨e, p⟩ := e
    rw [hy] at hQ
    intro h2 hf2
    have hn2 := hf2.n; try simp only [AHeap.alloc_n, AHeap.upd_n] at hn2
    simp (maxSteps := 9999999) (disch := first | omega | (simp only [hN] <;> omega) | fail) only [go_sem, simprocAttr]
    exact hQ _ ⟨by (first | omega | (simp only [AHeap.alloc_n, AHeap.upd_n]; omega)), fun b hb hne => by (try simp only [AHeap.alloc_n, AHeap.upd_n] at hb hne); simp (maxSteps := 9999999) (disch := first | omega | (simp only [hN] <;> omega) | fail) only [go_sem, simprocAttr, hf2.old]⟩
  | ok y =>
    obtain ⟨k, ts2⟩ := y
    rw [hy] at hQ
    intro h2 kv hf2 hp2 hk2
    have hn2 := hf2.n; try simp only [AHeap.alloc_n, AHeap.upd_n] at hn2
    have q3 : h2.get h.n = some ⟨0, .cells .own 0 [.int .i64 0, .int .i64 0, .str [], .int .i64 0, .int .i64 0, .int .i64 0, .int .i64 0, .int .u64 0, .nilSlice]⟩ := by simp (maxSteps := 9999999) (disch := first | omega | (simp only [hN] <;> omega) | fail) only [go_sem, simprocAttr, hf2.old]
    simp (maxSteps := 9999999) (disch := first | omega | (simp only [hN] <;> omega) | fail) only [go_sem, simprocAttr, q3, hk2.flat.1, hk2.flat.2]
    exact hQ _ kv ⟨by (first | omega | (simp only [AHeap.alloc_n, AHeap.upd_n]; omega)), fun b hb hne => by (try simp only [AHeap.alloc_n, AHeap.upd_n] at hb hne); simp (maxSteps := 9999999) (disch := first | omega | (simp only [hN] <;> omega) | fail) only [go_sem, simprocAttr, hf2.old]⟩ (hp2.fr' (q := h.n) (Fr.upd _ _ _) hlt) (hk2.keep (by simp (maxSteps := 9999999) (disch := first | omega | (simp only [hN] <;> omega) | fail) only [go_sem, simprocAttr]; omega) (by simp (maxSteps := 9999999) (disch := first | omega | (simp only [hN] <;> omega) | fail) only [go_sem, simprocAttr]; exact Nat.le_refl _) fun b hb1 hb2 => by simp only [AHeap.alloc_n] at hb1; simp (maxSteps := 9999999) (disch := first | omega | (simp only [hN] <;> omega) | fail) only [go_sem, simprocAttr])

theorem sum_tok {E : Nat} {u : PT} (hu : PSpec 113 E u) : PSpec 106 E (rowP true [[43], [45]] u) := by
  intro h r lv ts Q hp hz hQ
  refine WF.code F106 rfl ?_
  have hlt := hp.hi
  simp (maxSteps := 9999999) (disch := first | omega | (simp only [hN] <;> omega) | fail) only [go_sem, simprocAttr, List.map]
  refine row_tok (ops := [[43], [45]]) (ver := 0) hu (hp.fr (h' := (h.alloc (.cells .own 0 [.int .i64 0, .int .i64 0, .str [], .int .i64 0, .int .i64 0, .int .i64 0, .int .i64 0, .int .u64 0, .nilSlice])).alloc (.cells .own 1 (List.map .str [[43], [45]]))) ⟨by (first | omega | (simp only [AHeap.alloc_n, AHeap.upd_n]; omega)), fun b hb hne => by (try simp only [AHeap.alloc_n, AHeap.upd_n] at hb hne); simp (maxSteps := 9999999) (disch := first | omega | (simp only [hN] <;> omega) | fail) only [go_sem, simprocAttr]⟩) (by (first | (simp (maxSteps := 9999999) (disch := first | omega | (simp only [hN] <;> omega) | fail) only [go_sem, simprocAttr, List.map]; done) | (simp (maxSteps := 9999999) (disch := first | omega | (simp only [hN] <;> omega) | fail) only [go_sem, simprocAttr, List.map]; rfl))) (by simp (maxSteps := 9999999) (disch := first | omega | (simp only [hN] <;> omega) | fail) only [go_sem, simprocAttr]; omega) (by omega) (show 2 < 2 ^ 62 by decide) hz ?_
  cases hy : rowP true [[43], [45]] u lv ts with
  | error e =>
    obtain ⟨e, p⟩ := e
    rw [hy] at hQ
    intro h2 hf2
    have hn2 := hf2.n; try simp only [AHeap.alloc_n, AHeap.upd_n] at hn2
    simp (maxSteps := 9999999) (disch := first | omega | (simp only [hN] <;> omega) | fail) only [go_sem, simprocAttr]
    exact hQ _ ⟨by (first | omega | (simp only [AHeap.alloc_n, AHeap.upd_n]; omega)), fun b hb hne => by (try simp only [AHeap.alloc_n, AHeap.upd_n] at hb hne); simp (maxSteps := 9999999) (disch := first | omega | (simp only [hN] <;> omega) | fail) only [go_sem, simprocAttr, hf2.old]⟩
  | ok y =>
    obtain ⟨k, ts2⟩ := y
    rw [hy] at hQ
    intro h2 kv hf2 hp2 hk2
    have hn2 := hf2.n; try simp only [AHeap.alloc_n, AHeap.upd_n] at hn2
    have q3 : h2.get h.n = some ⟨0, .cells .own 0 [.int .i64 0, .int .i64 0, .str [], .int .i64 0, .int .i64 0, .int .i64 0, .int .i64 0, .int .u64 0, .nilSlice]⟩ := by simp (maxSteps := 9999999) (disch := first | omega | (simp only [hN] <;> omega) | fail) only [go_sem, simprocAttr, hf2.old]
    simp (maxSteps := 9999999) (disch := first | omega | (simp only [hN] <;> omega) | fail) only [go_sem, simprocAttr, q3, hk2.flat.1, hk2.flat.2]
    exact hQ _ kv ⟨by (first | omega | (simp only [AHeap.alloc_n, AHeap.upd_n]; omega)), fun b hb hne => by (try simp only [AHeap.alloc_n, AHeap.upd_n] at hb hne); simp (maxSteps := 9999999) (disch := first | omega | (simp only [hN] <;> omega) | fail) only [go_sem, simprocAttr, hf2.old]⟩ (hp2.fr' (q := h.n) (Fr.upd _ _ _) hlt) (hk2.keep (by simp (maxSteps := 9999999) (disch := first | omega | (simp only [hN] <;> omega) | fail) only [go_sem, simprocAttr]; omega) (by simp (maxSteps := 9999999) (disch := first | omega | (simp only [hN] <;> omega) | fail) only [go_sem, simprocAttr]; exact Nat.le_refl _) fun b hb1 hb2 => by simp only [AHeap.alloc_n] at hb1; simp (maxSteps := 9999999) (disch := first | omega | (simp only [hN] <;> omega) | fail) only [go_sem, simprocAttr])

theorem cmp_tok {E : Nat} {u : PT} (hu : PSpec 106 E u) : PSpec 90 E (rowP false [[61, 61], [33, 61], [60], [60, 61], [62], [62, 61]] u) := by
  intro h r lv ts Q hp hz hQ
  refine WF.code F90 rfl ?_
  have hlt := hp.hi
  simp (maxSteps := 9999999) (disch := first | omega | (simp only [hN] <;> omega) | fail) only [go_sem, simprocAttr, List.map]
  refine row_tok (ops := [[61, 61], [33, 61], [60], [60, 61], [62], [62, 61]]) (ver := 0) hu (hp.fr (h' := (h.alloc (.cells .own 0 [.int .i64 0, .int .i64 0, .str [], .int .i64 0, .int .i64 0, .int .i64 0, .int .i64 0, .int .u64 0, .nilSlice])).alloc (.cells .own 1 (List.map .str [[61, 61], [33, 61], [60], [60, 61], [62], [62, 61]]))) ⟨by (first | omega | (simp only [AHeap.alloc_n, AHeap.upd_n]; omega)), fun b hb hne => by (try simp only [AHeap.alloc_n, AHeap.upd_n] at hb hne); simp (maxSteps := 9999999) (disch := first | omega | (simp only [hN] <;> omega) | fail) only [go_sem, simprocAttr]⟩) (by (first | (simp (maxSteps := 9999999) (disch := first | omega | (simp only [hN] <;> omega) | fail) only [go_sem, simprocAttr, List.map]; done) | (simp (maxSteps := 9999999) (disch := first | omega | (simp only [hN] <;> omega) | fail) only [go_sem, simprocAttr, List.map]; rfl))) (by simp (maxSteps := 9999999) (disch := first | omega | (simp only [hN] <;> omega) | fail) only [go_sem, simprocAttr]; omega) (by omega) (show 6 < 2 ^ 62 by decide) hz ?_
  cases hy : rowP false [[61, 61], [33, 61], [60], [60, 61], [62], [62, 61]] u lv ts with
  | error e =>
    obtain ⟨e, p⟩ := e
    rw [hy] at hQ
    intro h2 hf2
    have hn2 := hf2.n; try simp only [AHeap.alloc_n, AHeap.upd_n] at hn2
    simp (maxSteps := 9999999) (disch := first | omega | (simp only [hN] <;> omega) | fail) only [go_sem, simprocAttr]
    exact hQ _ ⟨by (first | omega | (simp only [AHeap.alloc_n, AHeap.upd_n]; omega)), fun b hb hne => by (try simp only [AHeap.alloc_n, AHeap.upd_n] at hb hne); simp (maxSteps := 9999999) (disch := first | omega | (simp only [hN] <;> omega) | fail) only [go_sem, simprocAttr, hf2.old]⟩
  | ok y =>
    obtain ⟨k, ts2⟩ := y
    rw [hy] at hQ
    intro h2 kv hf2 hp2 hk2
    have hn2 := hf2.n; try simp only [AHeap.alloc_n, AHeap.upd_n] at hn2
    have q3 : h2.get h.n = some ⟨0, .cells .own 0 [.int .i64 0, .int .i64 0, .str [], .int .i64 0, .int .i64 0, .int .i64 0, .int .i64 0, .int .u64 0, .nilSlice]⟩ := by simp (maxSteps := 9999999) (disch := first | omega | (simp only [hN] <;> omega) | fail) only [go_sem, simprocAttr, hf2.old]
    simp (maxSteps := 9999999) (disch := first | omega | (simp only [hN] <;> omega) | fail) only [go_sem, simprocAttr, q3, hk2.flat.1, hk2.flat.2]
    exact hQ _ kv ⟨by (first | omega | (simp only [AHeap.alloc_n, AHeap.upd_n]; omega)), fun b hb hne => by (try simp only [AHeap.alloc_n, AHeap.upd_n] at hb hne); simp (maxSteps := 9999999) (disch := first | omega | (simp only [hN] <;> omega) | fail) only [go_sem, simprocAttr, hf2.old]⟩ (hp2.fr' (q := h.n) (Fr.upd _ _ _) hlt) (hk2.keep (by simp (maxSteps := 9999999) (disch := first | omega | (simp only [hN] <;> omega) | fail) only [go_sem, simprocAttr]; omega) (by simp (maxSteps := 9999999) (disch := first | omega | (simp only [hN] <;> omega) | fail) only [go_sem, simprocAttr]; exact Nat.le_refl _) fun b hb1 hb2 => by simp only [AHeap.alloc_n] at hb1; simp (maxSteps := 9999999) (disch := first | omega | (simp only [hN] <;> omega) | fail) only [go_sem, simprocAttr])

theorem and_tok {E : Nat} {u : PT} (hu : PSpec 90 E u) : PSpec 66 E (rowP true [[38, 38]] u) := by
  intro h r lv ts Q hp hz hQ
  refine WF.code F66 rfl ?_
  have hlt := hp.hi
  simp (maxSteps := 9999999) (disch := first | omega | (simp only [hN] <;> omega) | fail) only [go_sem, simprocAttr, List.map]
  refine row_tok (ops := [[38, 38]]) (ver := 0) hu (hp.fr (h' := (h.alloc (.cells .own 0 [.int .i64 0, .int .i64 0, .str [], .int .i64 0, .int .i64 0, .int .i64 0, .int .i64 0, .int .u64 0, .nilSlice])).alloc (.cells .own 1 (List.map .str [[38, 38]]))) ⟨by (first | omega | (simp only [AHeap.alloc_n, AHeap.upd_n]; omega)), fun b hb hne => by (try simp only [AHeap.alloc_n, AHeap.upd_n] at hb hne); simp (maxSteps := 9999999) (disch := first | omega | (simp only [hN] <;> omega) | fail) only [go_sem, simprocAttr]⟩) (by (first | (simp (maxSteps := 9999999) (disch := first | omega | (simp only [hN] <;> omega) | fail) only [go_sem, simprocAttr, List.map]; done) | (simp (maxSteps := 9999999) (disch := first | omega | (simp only [hN] <;> omega) | fail) only [go_sem, simprocAttr, List.map]; rfl))) (by simp (maxSteps := 9999999) (disch := first | omega | (simp only [hN] <;> omega) | fail) only [go_sem, simprocAttr]; omega) (by omega) (show 1 < 2 ^ 62 by decide) hz ?_
  cases hy : rowP true [[38, 38]] u lv ts with
  | error e =>
    obtain ⟨e, p⟩ := e
    rw [hy] at hQ
    intro h2 hf2
    have hn2 := hf2.n; try simp only [AHeap.alloc_n, AHeap.upd_n] at hn2
    simp (maxSteps := 9999999) (disch := first | omega | (simp only [hN] <;> omega) | fail) only [go_sem, simprocAttr]
    exact hQ _ ⟨by (first | omega | (simp only [AHeap.alloc_n, AHeap.upd_n]; omega)), fun b hb hne => by (try simp only [AHeap.alloc_n, AHeap.upd_n] at hb hne); simp (maxSteps := 9999999) (disch := first | omega | (simp only [hN] <;> omega) | fail) only [go_sem, simprocAttr, hf2.old]⟩
  | ok y =>
    obtain ⟨k, ts2⟩ := y
    rw [hy] at hQ
    intro h2 kv hf2 hp2 hk2
    have hn2 := hf2.n; try simp only [AHeap.alloc_n, AHeap.upd_n] at hn2
    have q3 : h2.get h.n = some ⟨0, .cells .own 0 [.int .i64 0, .int .i64 0, .str [], .int .i64 0, .int .i64 0, .int .i64 0, .int .i64 0, .int .u64 0, .nilSlice]⟩ := by simp (maxSteps := 9999999) (disch := first | omega | (simp only [hN] <;> omega) | fail) only [go_sem, simprocAttr, hf2.old]
    simp (maxSteps := 9999999) (disch := first | omega | (simp only [hN] <;> omega) | fail) only [go_sem, simprocAttr, q3, hk2.flat.1, hk2.flat.2]
    exact hQ _ kv ⟨by (first | omega | (simp only [AHeap.alloc_n, AHeap.upd_n]; omega)), fun b hb hne => by (try simp only [AHeap.alloc_n, AHeap.upd_n] at hb hne); simp (maxSteps := 9999999) (disch := first | omega | (simp only [hN] <;> omega) | fail) only [go_sem, simprocAttr, hf2.old]⟩ (hp2.fr' (q := h.n) (Fr.upd _ _ _) hlt) (hk2.keep (by simp (maxSteps := 9999999) (disch := first | omega | (simp only [hN] <;> omega) | fail) only [go_sem, simprocAttr]; omega) (by simp (maxSteps := 9999999) (disch := first | omega | (simp only [hN] <;> omega) | fail) only [go_sem, simprocAttr]; exact Nat.le_refl _) fun b hb1 hb2 => by simp only [AHeap.alloc_n] at hb1; simp (maxSteps := 9999999) (disch := first | omega | (simp only [hN] <;> omega) | fail) only [go_sem, simprocAttr])

theorem expr_tok {E : Nat} {u : PT} (hu : PSpec 66 E u) : PSpec 38 E (rowP true [[124, 124]] u) := by
  intro h r lv ts Q hp hz hQ
  refine WF.code F38 rfl ?_
  have hlt := hp.hi
  simp (maxSteps := 9999999) (disch := first | omega | (simp only [hN] <;> omega) | fail) only [go_sem, simprocAttr, List.map]
  refine row_tok (ops := [[124, 124]]) (ver := 0) hu (hp.fr (h' := (h.alloc (.cells .own 0 [.int .i64 0, .int .i64 0, .str [], .int .i64 0, .int .i64 0, .int .i64 0, .int .i64 0, .int .u64 0, .nilSlice])).alloc (.cells .own 1 (List.map .str [[124, 124]]))) ⟨by (first | omega | (simp only [AHeap.alloc_n, AHeap.upd_n]; omega)), fun b hb hne => by (try simp only [AHeap.alloc_n, AHeap.upd_n] at hb hne); simp (maxSteps := 9999999) (disch := first | omega | (simp only [hN] <;> omega) | fail) only [go_sem, simprocAttr]⟩) (by (first | (simp (maxSteps := 9999999) (disch := first | omega | (simp only [hN] <;> omega) | fail) only [go_sem, simprocAttr, List.map]; done) | (simp (maxSteps := 9999999) (disch := first | omega | (simp only [hN] <;> omega) | fail) only [go_sem, simprocAttr, List.map]; rfl))) (by simp (maxSteps := 9999999) (disch := first | omega | (simp only [hN] <;> omega) | fail) only [go_sem, simprocAttr]; omega) (by omega) (show 1 < 2 ^ 62 by decide) hz ?_
  cases hy : rowP true [[124, 124]] u lv ts with
  | error e =>
    obtain ⟨e, p⟩ := e
    rw [hy] at hQ
    intro h2 hf2
    have hn2 := hf2.n; try simp only [AHeap.alloc_n, AHeap.upd_n] at hn2
    simp (maxSteps := 9999999) (disch := first | omega | (simp only [hN] <;> omega) | fail) only [go_sem, simprocAttr]
    exact hQ _ ⟨by (first | omega | (simp only [AHeap.alloc_n, AHeap.upd_n]; omega)), fun b hb hne => by (try simp only [AHeap.alloc_n, AHeap.upd_n] at hb hne); simp (maxSteps := 9999999) (disch := first | omega | (simp only [hN] <;> omega) | fail) only [go_sem, simprocAttr, hf2.old]⟩
  | ok y =>
    obtain ⟨k, ts2⟩ := y
    rw [hy] at hQ
    intro h2 kv hf2 hp2 hk2
    have hn2 := hf2.n; try simp only [AHeap.alloc_n, AHeap.upd_n] at hn2
    have q3 : h2.get h.n = some ⟨0, .cells .own 0 [.int .i64 0, .int .i64 0, .str [], .int .i64 0, .int .i64 0, .int .i64 0, .int .i64 0, .int .u64 0, .nilSlice]⟩ := by simp (maxSteps := 9999999) (disch := first | omega | (simp only [hN] <;> omega) | fail) only [go_sem, simprocAttr, hf2.old]
    simp (maxSteps := 9999999) (disch := first | omega | (simp only [hN] <;> omega) | fail) only [go_sem, simprocAttr, q3, hk2.flat.1, hk2.flat.2]
    exact hQ _ kv ⟨by (first | omega | (simp only [AHeap.alloc_n, AHeap.upd_n]; omega)), fun b hb hne => by (try simp only [AHeap.alloc_n, AHeap.upd_n] at hb hne); simp (maxSteps := 9999999) (disch := first | omega | (simp only [hN] <;> omega) | fail) only [go_sem, simprocAttr, hf2.old]⟩ (hp2.fr' (q := h.n) (Fr.upd _ _ _) hlt) (hk2.keep (by simp (maxSteps := 9999999) (disch := first | omega | (simp only [hN] <;> omega) | fail) only [go_sem, simprocAttr]; omega) (by simp (maxSteps := 9999999) (disch := first | omega | (simp only [hN] <;> omega) | fail) only [go_sem, simprocAttr]; exact Nat.le_refl _) fun b hb1 hb2 => by simp only [AHeap.alloc_n] at hb1; simp (maxSteps := 9999999) (disch := first | omega | (simp only [hN] <;> omega) | fail) only [go_sem, simprocAttr])

theorem exprOf_tok {E : Nat} {u : PT} (hu : PSpec 119 E u) : PSpec 38 E (exprOf u) := expr_tok (and_tok (cmp_tok (sum_tok (prod_tok hu))))

theorem unary_tok {E : Nat} (f : Nat) : PSpec 119 E (unP E f) := by
  induction f with
  | zero => intro h r lv ts Q hp hz hQ; exact absurd rfl hz
  | succ f unary_ih =>
    intro h r lv ts Q hp hz hQ
    refine WF.code F119 rfl ?_
    have hlt := hp.hi
    simp (maxSteps := 9999999) (disch := first | omega | (simp only [hN] <;> omega) | fail) only [go_sem, simprocAttr]
    rw [unP] at hz hQ
    refine is_tok (ws := [[45], [33]]) (md := .own) (ver := 0) (E := E) (ts := ts) (lv := lv) (hp.fr ⟨by (first | omega | (simp only [AHeap.alloc_n, AHeap.upd_n]; omega)), fun b hb hne => by (try simp only [AHeap.alloc_n, AHeap.upd_n] at hb hne); simp (maxSteps := 9999999) (disch := first | omega | (simp only [hN] <;> omega) | fail) only [go_sem, simprocAttr]⟩) (by (first | (simp (maxSteps := 9999999) (disch := first | omega | (simp only [hN] <;> omega) | fail) only [go_sem, simprocAttr, List.map]; done) | (simp (maxSteps := 9999999) (disch := first | omega | (simp only [hN] <;> omega) | fail) only [go_sem, simprocAttr, List.map]; rfl))) (by simp (maxSteps := 9999999) (disch := first | omega | (simp only [hN] <;> omega) | fail) only [go_sem, simprocAttr]; omega) (show 2 < 2 ^ 62 by decide) ?_
    intro h1 hf1
    have hn1 := hf1.n; try simp only [AHeap.alloc_n, AHeap.upd_n] at hn1
    have hf : ∀ b', b' < h.n → h1.get b' = h.get b' := fun b' hb' => by simp (maxSteps := 9999999) (disch := first | omega | (simp only [hN] <;> omega) | fail) only [go_sem, simprocAttr, hf1.old]
    have q0 : h1.get h.n = some ⟨0, .cells .own 0 [.int .i64 0, .int .i64 0, .str [], .int .i64 0, .int .i64 0, .int .i64 0, .int .i64 0, .int .u64 0, .nilSlice]⟩ := by simp (maxSteps := 9999999) (disch := first | omega | (simp only [hN] <;> omega) | fail) only [go_sem, simprocAttr, hf1.old]
    have hp1 : PInv h1 r E ts lv := hp.fr ⟨by (first | omega | (simp only [AHeap.alloc_n, AHeap.upd_n]; omega)), fun b hb hne => by (try simp only [AHeap.alloc_n, AHeap.upd_n] at hb hne); simp (maxSteps := 9999999) (disch := first | omega | (simp only [hN] <;> omega) | fail) only [go_sem, simprocAttr, hf]⟩
    clear hf1
    by_cases hi : isT [[45], [33]] ts = true
    · rw [if_pos hi] at hz hQ
      simp (maxSteps := 9999999) (disch := first | omega | (simp only [hN] <;> omega) | fail) only [go_sem, simprocAttr, hi]
      refine here_tok (E := E) (lv := lv) (ts := ts) hp1 ?_
      intro h2 hf2
      have hn2 := hf2.n; try simp only [AHeap.alloc_n, AHeap.upd_n] at hn2
      have hp2 := hp1.fr hf2
      simp (maxSteps := 9999999) (disch := first | omega | (simp only [hN] <;> omega) | fail) only [go_sem, simprocAttr, tokAV]
      refine open_tok hp2 ?_
      have hop : isT [(hdT E ts).text] ts = true := by
        cases ts with
        | nil => exact absurd rfl (isT_ne hi)
        | cons t ts =>
          simp only [isT, Bool.and_eq_true] at hi ⊢
          exact ⟨hi.1, by simp [hdT]⟩
      rw [if_pos hop]
      by_cases h16 : lv = 16
      · rw [if_pos h16] at hQ ⊢
        intro h6 hf6
        have hn6 := hf6.n; try simp only [AHeap.alloc_n, AHeap.upd_n] at hn6
        simp (maxSteps := 9999999) (disch := first | omega | (simp only [hN] <;> omega) | fail) only [go_sem, simprocAttr]
        exact hQ _ ⟨by (first | omega | (simp only [AHeap.alloc_n, AHeap.upd_n]; omega)), fun b hb hne => by (try simp only [AHeap.alloc_n, AHeap.upd_n] at hb hne); simp (maxSteps := 9999999) (disch := first | omega | (simp only [hN] <;> omega) | fail) only [go_sem, simprocAttr, hf6.old, hf2.old, hf]⟩
      · rw [if_neg h16] at hQ hz ⊢
        intro h6 hf6 hp6
        have hn6 := hf6.n; try simp only [AHeap.alloc_n, AHeap.upd_n] at hn6
        have hlt6 := hp6.hi
        have d1 : decide (h6.n = h6.n + 1) = false := decide_eq_false (by omega)
        simp (maxSteps := 9999999) (disch := first | omega | (simp only [hN] <;> omega) | fail) only [go_sem, simprocAttr, tokAV, d1]
        generalize hG : ((h6.alloc (.cells .own 0 [.int .i64 0, .str [], .int .i64 0, .int .u64 0, .int .i64 0])).upd h6.n 1 (.cells .own 0 [.int .i64 ((hdT E ts).kind : Int), .str (hdT E ts).text, .int .i64 ((hdT E ts).n : Int), .int .u64 ((hdT E ts).bits : Int), .int .i64 ((hdT E ts).pos : Int)])).alloc (.cells .own 0 [.int .i64 0, .int .i64 0, .str [], .int .i64 0, .int .i64 0, .int .i64 0, .int .i64 0, .int .u64 0, .nilSlice]) = G
        have hGn : G.n = h6.n + 2 := by rw [← hG]; simp (maxSteps := 9999999) (disch := first | omega | (simp only [hN] <;> omega) | fail) only [go_sem, simprocAttr]
        have hG1 : ∀ b', b' < h6.n → G.get b' = h6.get b' := fun b' hb' => by rw [← hG]; simp (maxSteps := 9999999) (disch := first | omega | (simp only [hN] <;> omega) | fail) only [go_sem, simprocAttr]
        have hGt : G.get h6.n = some ⟨1, .cells .own 0 [.int .i64 ((hdT E ts).kind : Int), .str (hdT E ts).text, .int .i64 ((hdT E ts).n : Int), .int .u64 ((hdT E ts).bits : Int), .int .i64 ((hdT E ts).pos : Int)]⟩ := by rw [← hG]; simp (maxSteps := 9999999) (disch := first | omega | (simp only [hN] <;> omega) | fail) only [go_sem, simprocAttr]
        have hGz : G.get (h6.n + 1) = some ⟨0, .cells .own 0 [.int .i64 0, .int .i64 0, .str [], .int .i64 0, .int .i64 0, .int .i64 0, .int .i64 0, .int .u64 0, .nilSlice]⟩ := by rw [← hG]; simp (maxSteps := 9999999) (disch := first | omega | (simp only [hN] <;> omega) | fail) only [go_sem, simprocAttr]
        have hpG : PInv G r E ts.tail (lv + 1) := hp6.fr ⟨by omega, fun b hb _ => hG1 b hb⟩
        have q6 : h6.get h.n = some ⟨0, .cells .own 0 [.int .i64 0, .int .i64 0, .str [], .int .i64 0, .int .i64 0, .int .i64 0, .int .i64 0, .int .u64 0, .nilSlice]⟩ := by rw [hf6.old _ (by omega) (by omega), hf2.old _ (by omega) (by omega)]; exact q0
        have hf' : ∀ b', b' < h.n → b' ≠ r → G.get b' = h.get b' := fun b' hb' hr' => by rw [hG1 _ (by omega), hf6.old _ (by omega) hr', hf2.old _ (by omega) (by omega)]; exact hf _ hb'
        have hlv := hp6.lvl
        clear hf6 hf2 hf hG hp6 hp2 hp1 hop hi q0
        refine unary_ih hpG ?_ ?_
        · intro e; rw [e] at hz; exact hz rfl
        cases hxx : unP E f (lv + 1) ts.tail with
        | error e =>
          obtain ⟨e, p⟩ := e
          rw [hxx] at hQ
          intro h7 hf7
          have hn7 := hf7.n; try simp only [AHeap.alloc_n, AHeap.upd_n] at hn7
          have q7 : h7.get h6.n = G.get h6.n := hf7.old _ (by omega) (by omega)
          have q8 : h7.get (h6.n + 1) = G.get (h6.n + 1) := hf7.old _ (by omega) (by omega)
          simp (maxSteps := 9999999) (disch := first | omega | (simp only [hN] <;> omega) | fail) only [go_sem, simprocAttr, q7, q8, hGt, hGz]
          exact hQ _ ⟨by (first | omega | (simp only [AHeap.alloc_n, AHeap.upd_n]; omega)), fun b hb hne => by (try simp only [AHeap.alloc_n, AHeap.upd_n] at hb hne); simp (maxSteps := 9999999) (disch := first | omega | (simp only [hN] <;> omega) | fail) only [go_sem, simprocAttr, hf7.old, hf']⟩
        | ok y =>
          obtain ⟨k, ts2⟩ := y
          rw [hxx] at hQ hz
          intro h7 kv hf7 hp7 hk7
          have hn7 := hf7.n; try simp only [AHeap.alloc_n, AHeap.upd_n] at hn7
          have q7 : h7.get h6.n = G.get h6.n := hf7.old _ (by omega) (by omega)
          have q8 : h7.get (h6.n + 1) = G.get (h6.n + 1) := hf7.old _ (by omega) (by omega)
          have q9 : h7.get h.n = h6.get h.n := by rw [hf7.old _ (by omega) (by omega)]; exact hG1 _ (by omega)
          obtain ⟨vr, v, hr, ht⟩ := hp7.st
          have hlt7 := hp7.hi
          have ep : (((lv + 1 : Nat) : Int) - 1) = (lv : Int) := by omega
          have g1 : (h6.n + 1 = r) = False := by simp; omega
          have g2 : (h.n = r) = False := by simp; omega
          rw [q6] at q9
          rw [hGt] at q7
          rw [hGz] at q8
          simp (maxSteps := 9999999) (disch := first | omega | (simp only [hN] <;> omega) | fail) only [go_sem, simprocAttr, q7, q8, q9, hGt, hGz, hk7.flat.1, hk7.flat.2, hr, ep]
          have hpa := (hp7.fr (h' := h7.alloc (.cells .own 9 (ndC k kv))) ⟨by (first | omega | (simp only [AHeap.alloc_n, AHeap.upd_n]; omega)), fun b hb hne => by (try simp only [AHeap.alloc_n, AHeap.upd_n] at hb hne); simp (maxSteps := 9999999) (disch := first | omega | (simp only [hN] <;> omega) | fail) only [go_sem, simprocAttr]⟩).fr' (q := h6.n + 1) (Fr.upd _ 1 (.cells .own 0 [.int .i64 30, .int .i64 ((hdT E ts).pos : Int), .str (hdT E ts).text, .int .i64 0, .int .i64 0, .int .i64 0, .int .i64 0, .int .u64 0, .slice h7.n 0 1 1 true])) (by omega)
          have hpb := hpa.step (lv' := lv) (ver := vr + 1) (v := v) (ts' := ts2) (Fr.upd _ (vr + 1) (.cells .own 0 [v, .int .i64 (E : Int), .int .i64 (lv : Int)])) (by simp (maxSteps := 9999999) (disch := first | omega | (simp only [hN] <;> omega) | fail) only [go_sem, simprocAttr]) (ht.fr (q := h6.n + 1) (⟨by (first | omega | (simp only [AHeap.alloc_n, AHeap.upd_n]; omega)), fun b hb hne => by (try simp only [AHeap.alloc_n, AHeap.upd_n] at hb hne); simp (maxSteps := 9999999) (disch := first | omega | (simp only [hN] <;> omega) | fail) only [go_sem, simprocAttr]⟩ : Fr (h6.n + 1) h7 _) hlt7 (by omega)) (by omega)
          refine hQ _ _ ⟨by (first | omega | (simp only [AHeap.alloc_n, AHeap.upd_n]; omega)), fun b hb hne => by (try simp only [AHeap.alloc_n, AHeap.upd_n] at hb hne); simp (maxSteps := 9999999) (disch := first | omega | (simp only [hN] <;> omega) | fail) only [go_sem, simprocAttr, hf7.old, hf']⟩ (hpb.fr' (q := h.n) (Fr.upd _ _ _) hlt) ?_
          exact KidsR.one (ver := 0) (kv := kv) (hk7.keep (by omega) (by simp (maxSteps := 9999999) (disch := first | omega | (simp only [hN] <;> omega) | fail) only [go_sem, simprocAttr]; omega) fun b hb1 hb2 => by simp (maxSteps := 9999999) (disch := first | omega | (simp only [hN] <;> omega) | fail) only [go_sem, simprocAttr]) (by omega) (by simp (maxSteps := 9999999) (disch := first | omega | (simp only [hN] <;> omega) | fail) only [go_sem, simprocAttr]; omega) (by simp (maxSteps := 9999999) (disch := first | omega | (simp only [hN] <;> omega) | fail) only [go_sem, simprocAttr])
    · rw [if_neg hi] at hz hQ
      have hi' : isT [[45], [33]] ts = false := by simpa using hi
      simp (maxSteps := 9999999) (disch := first | omega | (simp only [hN] <;> omega) | fail) only [go_sem, simprocAttr, hi']
      refine prim_tok (exprOf_tok unary_ih) hp1 hz ?_
      cases hy : primP E (exprOf (unP E f)) lv ts with
      | error e =>
        obtain ⟨e, p⟩ := e
        rw [hy] at hQ
        intro h2 hf2
        have hn2 := hf2.n; try simp only [AHeap.alloc_n, AHeap.upd_n] at hn2
        simp (maxSteps := 9999999) (disch := first | omega | (simp only [hN] <;> omega) | fail) only [go_sem, simprocAttr]
        exact hQ _ ⟨by (first | omega | (simp only [AHeap.alloc_n, AHeap.upd_n]; omega)), fun b hb hne => by (try simp only [AHeap.alloc_n, AHeap.upd_n] at hb hne); simp (maxSteps := 9999999) (disch := first | omega | (simp only [hN] <;> omega) | fail) only [go_sem, simprocAttr, hf2.old, hf]⟩
      | ok y =>
        obtain ⟨k, ts2⟩ := y
        rw [hy] at hQ
        intro h2 kv hf2 hp2 hk2
        have hn2 := hf2.n; try simp only [AHeap.alloc_n, AHeap.upd_n] at hn2
        have q3 : h2.get h.n = some ⟨0, .cells .own 0 [.int .i64 0, .int .i64 0, .str [], .int .i64 0, .int .i64 0, .int .i64 0, .int .i64 0, .int .u64 0, .nilSlice]⟩ := by rw [hf2.old _ (by omega) (by omega)]; exact q0
        simp (maxSteps := 9999999) (disch := first | omega | (simp only [hN] <;> omega) | fail) only [go_sem, simprocAttr, q3, hk2.flat.1, hk2.flat.2]
        exact hQ _ kv ⟨by (first | omega | (simp only [AHeap.alloc_n, AHeap.upd_n]; omega)), fun b hb hne => by (try simp only [AHeap.alloc_n, AHeap.upd_n] at hb hne); simp (maxSteps := 9999999) (disch := first | omega | (simp only [hN] <;> omega) | fail) only [go_sem, simprocAttr, hf2.old, hf]⟩ (hp2.fr' (q := h.n) (Fr.upd _ _ _) hlt) (hk2.keep (by omega) (by simp (maxSteps := 9999999) (disch := first | omega | (simp only [hN] <;> omega) | fail) only [go_sem, simprocAttr]; exact Nat.le_refl _) fun b hb1 hb2 => by simp (maxSteps := 9999999) (disch := first | omega | (simp only [hN] <;> omega) | fail) only [go_sem, simprocAttr])
end Go.Ev
/- The tree's reader: a whole text. -/
namespace Go.Ev
open Go
set_option maxRecDepth 100000
set_option maxHeartbeats 4000000

def zN : List AV := [.int .i64 0, .int .i64 0, .str [], .int .i64 0, .int .i64 0, .int .i64 0, .int .i64 0, .int .u64 0, .nilSlice]
attribute [go_sem] zN
theorem trecover_ret {o b : Nat} {h : AHeap} {Q : AHeap → Prop} (hQ : Q h) : WDef F 63 [.ptr o 0, .ptr b 0] .ret h Q := by
  refine WDef.code F63 rfl ?_
  simp (maxSteps := 9999999) (disch := first | omega | (simp only [hN] <;> omega) | fail) only [go_sem, simprocAttr, eqT, eqK]
  exact hQ
theorem trecover_stop {o b e p v1 v2 : Nat} {h : AHeap} {n : Nd} {kv x2 x3 : AV} {Q : AHeap → Prop} (ho : h.get o = some ⟨v1, .cells .own 0 (ndC n kv)⟩) (hb : h.get b = some ⟨v2, .cells .own 0 [x2, x3]⟩) (hob : o ≠ b) (hon : o < h.n) (hbn : b < h.n)
    (hQ : ∀ h', h.n ≤ h'.n → (∀ c, c < h.n → c ≠ o → c ≠ b → h'.get c = h.get c) → (∃ v, h'.get o = some ⟨v, .cells .own 0 zN⟩) → (∃ v, h'.get b = some ⟨v, .cells .own 0 [errAV e, .int .i64 (p : Int)]⟩) → Q h') :
    WDef F 63 [.ptr o 0, .ptr b 0] (.pan (.iface 95 (.agg [errAV e, .int .i64 (p : Int)]))) h Q := by
  refine WDef.code F63 rfl ?_
  have d1 : decide (h.n = o) = false := decide_eq_false (by omega)
  simp (maxSteps := 9999999) (disch := first | omega | (simp only [hN] <;> omega) | fail) only [go_sem, simprocAttr, eqT, eqK, Nat.beq_refl, List.getElem?_cons_zero, ho, hb, d1]
  exact hQ _ (by simp only [AHeap.alloc_n, AHeap.upd_n]; omega) (fun c hc h1 h2 => by simp (maxSteps := 9999999) (disch := first | omega | (simp only [hN] <;> omega) | fail) only [go_sem, simprocAttr]) ⟨v1 + 1, by simp (maxSteps := 9999999) (disch := first | omega | (simp only [hN] <;> omega) | fail) only [go_sem, simprocAttr]⟩ ⟨v2 + 1, by simp (maxSteps := 9999999) (disch := first | omega | (simp only [hN] <;> omega) | fail) only [go_sem, simprocAttr]⟩

theorem PInv.loc {h : AHeap} {r E lv q v0 v1 : Nat} {ts : List Tok} {cs : List AV} {o : AObj} (p : PInv h r E ts lv) (hq : 18 + 17 ≤ q) (hqr : q ≠ r) (hg : h.get q = some ⟨v0, .cells .own 0 cs⟩) : PInv (h.upd q v1 o) r E ts lv := by
  obtain ⟨ver, v, h1, h2⟩ := p.st
  refine ⟨p.gh.upd hq _ _, p.lo, p.hi, p.lvl, ver, v, by rw [AHeap.get_upd, if_neg (Ne.symm hqr)]; exact h1, ?_⟩
  rcases h2 with h2 | ⟨b, vb, k, all, e1, e2, e3, e4⟩
  · exact .inl h2
  · refine .inr ⟨b, vb, k, all, e1, e2, ?_, e4⟩
    rw [AHeap.get_upd, if_neg (by rintro rfl; rw [hg] at e3; cases e3)]
    exact e3

def ReadQ (h : AHeap) (Q : QR) : Except Err Nd → Prop
  | .error (e, p) => ∀ h', Fr h.n h h' → Q (.ret (.tuple [.agg zN, .agg [errAV e, .int .i64 (p : Int)]])) h'
  | .ok n => ∀ h' kv, Fr h.n h h' → KidsR h.n h' n.kids kv → Q (.ret (.tuple [.agg (ndC n kv), .agg [.nilIface, .int .i64 0]])) h'

theorem read_tok {fid : Nat} {p : Nat → Nat → PT} (hP : ∀ E f, PSpec fid E (p E f)) (hF : ∀ E f, Fine f (p E (f + 1))) {s : Bs} (hlen : s.length < 2 ^ 62) {h : AHeap} (hG : GH h) {Q : QR} (hQ : ReadQ h Q (readP p s)) : WF F 37 [.str s, .func (.func fid) [] []] h Q := by
  refine WF.code F37 rfl ?_
  simp (maxSteps := 9999999) (disch := first | omega | (simp only [hN] <;> omega) | fail) only [go_sem, simprocAttr]
  refine tokens_spec ((hG.alloc _).alloc _) hlen ?_
  unfold readP at hQ
  cases hts : tokens s with
  | error x =>
    obtain ⟨e, q⟩ := x
    rw [hts] at hQ
    intro h1 hf1
    have hn1 := hf1.n; try simp only [AHeap.alloc_n, AHeap.upd_n] at hn1
    have d1 : decide (h.n + 1 = h.n) = false := decide_eq_false (by omega)
    simp (maxSteps := 9999999) (disch := first | omega | (simp only [hN] <;> omega) | fail) only [go_sem, simprocAttr, hf1.old, d1]
    refine hQ _ ?_
    exact ⟨by (first | omega | (simp only [AHeap.alloc_n, AHeap.upd_n]; omega)), fun b hb hne => by (try simp only [AHeap.alloc_n, AHeap.upd_n] at hb hne); simp (maxSteps := 9999999) (disch := first | omega | (simp only [hN] <;> omega) | fail) only [go_sem, simprocAttr, hf1.old]⟩
  | ok ts =>
    rw [hts] at hQ
    simp only at hQ
    intro h1 v1 hf1 hts1
    have hn1 := hf1.n; try simp only [AHeap.alloc_n, AHeap.upd_n] at hn1
    have hG1 : GH h1 := hf1.gh (by have := hG.n; simp (maxSteps := 9999999) (disch := first | omega | (simp only [hN] <;> omega) | fail) only [go_sem, simprocAttr]; omega) ((hG.alloc _).alloc _)
    simp (maxSteps := 9999999) (disch := first | omega | (simp only [hN] <;> omega) | fail) only [go_sem, simprocAttr, hf1.old, eqT_nil, hts1.flat.1, hts1.flat.2]
    have hf : ∀ b', b' < h.n → h1.get b' = h.get b' := fun b' hb' => by simp (maxSteps := 9999999) (disch := first | omega | (simp only [hN] <;> omega) | fail) only [go_sem, simprocAttr, hf1.old]
    have q4 : h1.get h.n = some ⟨0, .cells .own 0 zN⟩ := by simp (maxSteps := 9999999) (disch := first | omega | (simp only [hN] <;> omega) | fail) only [go_sem, simprocAttr, hf1.old]
    have ht0 : TokR h1 h1.n ts v1 := by
      obtain ⟨_, ⟨h0, rfl⟩ | ⟨hpos, b, ver, rfl, hb1, hb2, hb3⟩⟩ := hts1
      · exact .inl ⟨List.length_eq_zero_iff.1 h0, rfl⟩
      · exact .inr ⟨b, ver, 0, ts, by simp, hb2, hb3, rfl⟩
    generalize hH : ((h1.upd (h.n + 1) 1 (.cells .own 0 [.nilIface, .int .i64 0])).alloc (.cells .own 0 [v1, .int .i64 (s.length : Int), .int .i64 0])) = H
    have hHn : H.n = h1.n + 1 := by rw [← hH]; simp (maxSteps := 9999999) (disch := first | omega | (simp only [hN] <;> omega) | fail) only [go_sem, simprocAttr]
    have hH1 : ∀ b', b' < h1.n → b' ≠ h.n + 1 → H.get b' = h1.get b' := fun b' hb' hn' => by rw [← hH]; simp (maxSteps := 9999999) (disch := first | omega | (simp only [hN] <;> omega) | fail) only [go_sem, simprocAttr]
    have hH5 : H.get (h.n + 1) = some ⟨1, .cells .own 0 [.nilIface, .int .i64 0]⟩ := by rw [← hH]; simp (maxSteps := 9999999) (disch := first | omega | (simp only [hN] <;> omega) | fail) only [go_sem, simprocAttr]
    have hHr : H.get h1.n = some ⟨0, .cells .own 0 [v1, .int .i64 (s.length : Int), .int .i64 0]⟩ := by rw [← hH]; simp (maxSteps := 9999999) (disch := first | omega | (simp only [hN] <;> omega) | fail) only [go_sem, simprocAttr]
    have ht : TokR H h1.n ts v1 := by
      obtain ⟨_, ⟨h0, rfl⟩ | ⟨hpos, b, ver, rfl, hb1, hb2, hb3⟩⟩ := hts1
      · exact .inl ⟨List.length_eq_zero_iff.1 h0, rfl⟩
      · simp only [AHeap.alloc_n] at hb1
        exact .inr ⟨b, ver, 0, ts, by simp, hb2, by rw [hH1 _ hb2 (by omega)]; exact hb3, rfl⟩
    have hn0 := hG.n
    have hGH : GH H := (show Fr (h.n + 1) h1 H from ⟨by omega, fun b hb hne => hH1 b hb hne⟩).gh (by omega) hG1
    have hpH : PInv H h1.n s.length ts 0 := ⟨hGH, by omega, by omega, by omega, 0, v1, hHr, ht⟩
    have q4 : H.get h.n = some ⟨0, .cells .own 0 zN⟩ := by rw [hH1 _ (by omega) (by omega)]; exact q4
    have hf : ∀ b', b' < h.n → H.get b' = h.get b' := fun b' hb' => by rw [hH1 _ (by omega) (by omega)]; exact hf _ hb'
    generalize h1.n = r at *
    clear hH hH1 hHr ht ht0 hG1 hf1 hts1 hGH
    have hfine := hF s.length ts.length 0 ts (Nat.le_refl _)
    simp only [List.nil_append, List.append_nil]
    refine hP s.length (ts.length + 1) hpH ?_ ?_
    · intro e; rw [e] at hfine; rcases hfine with h | h <;> exact absurd h (by decide)
    cases hx : p s.length (ts.length + 1) 0 ts with
    | error x =>
      obtain ⟨e, q⟩ := x
      rw [hx] at hQ
      intro h2 hf2
      have hn2 := hf2.n; try simp only [AHeap.alloc_n, AHeap.upd_n] at hn2
      have q42 : h2.get h.n = some ⟨0, .cells .own 0 zN⟩ := by rw [hf2.old _ (by omega) (by omega)]; exact q4
      have q52 : h2.get (h.n + 1) = some ⟨1, .cells .own 0 [.nilIface, .int .i64 0]⟩ := by rw [hf2.old _ (by omega) (by omega)]; exact hH5
      simp (maxSteps := 9999999) (disch := first | omega | (simp only [hN] <;> omega) | fail) only [go_sem, simprocAttr, List.append_nil, List.nil_append]
      refine trecover_stop (n := .mk 0 0 [] 0 0 0 0 0 []) q42 q52 (by omega) (by omega) (by omega) ?_
      rintro h3 hn3 hf3 ⟨v3, q43⟩ ⟨v4, q53⟩
      simp (maxSteps := 9999999) (disch := first | omega | (simp only [hN] <;> omega) | fail) only [go_sem, simprocAttr, q43, q53]
      refine hQ _ ⟨by omega, fun b hb _ => ?_⟩
      rw [hf3 _ (by omega) (by omega) (by omega), hf2.old _ (by omega) (by omega)]
      exact hf _ hb
    | ok y =>
      obtain ⟨n, ts'⟩ := y
      rw [hx] at hQ
      intro h2 kv hf2 hp2 hk2
      have hn2 := hf2.n; try simp only [AHeap.alloc_n, AHeap.upd_n] at hn2
      have q42 : h2.get h.n = some ⟨0, .cells .own 0 zN⟩ := by rw [hf2.old _ (by omega) (by omega)]; exact q4
      have q52 : h2.get (h.n + 1) = some ⟨1, .cells .own 0 [.nilIface, .int .i64 0]⟩ := by rw [hf2.old _ (by omega) (by omega)]; exact hH5
      obtain ⟨vr, v, hr, htr⟩ := hp2.st
      have hlt2 := hp2.hi
      simp (maxSteps := 9999999) (disch := first | omega | (simp only [hN] <;> omega) | fail) only [go_sem, simprocAttr, q42, q52, hk2.flat.1, hk2.flat.2, hr, htr.len]
      cases ts' with
      | nil =>
        have c0 : decide ((0 : Int) > 0) = false := rfl
        simp (maxSteps := 9999999) (disch := first | omega | (simp only [hN] <;> omega) | fail) only [go_sem, simprocAttr, List.length_nil, Int.natCast_zero, c0, q42, q52, hk2.flat.1, hk2.flat.2]
        refine trecover_ret ?_
        simp (maxSteps := 9999999) (disch := first | omega | (simp only [hN] <;> omega) | fail) only [go_sem, simprocAttr, q42, q52, hk2.flat.1, hk2.flat.2]
        refine hQ _ kv ⟨by (first | omega | (simp only [AHeap.alloc_n, AHeap.upd_n]; omega)), fun b hb hne => by (try simp only [AHeap.alloc_n, AHeap.upd_n] at hb hne); simp (maxSteps := 9999999) (disch := first | omega | (simp only [hN] <;> omega) | fail) only [go_sem, simprocAttr, hf2.old, hf]⟩ (hk2.keep (by omega) (by simp (maxSteps := 9999999) (disch := first | omega | (simp only [hN] <;> omega) | fail) only [go_sem, simprocAttr]; exact Nat.le_refl _) fun b hb1 hb2 => by simp (maxSteps := 9999999) (disch := first | omega | (simp only [hN] <;> omega) | fail) only [go_sem, simprocAttr])
      | cons t ts' =>
        have c1 : decide (((ts'.length + 1 : Nat) : Int) > 0) = true := decide_eq_true (by omega)
        simp (maxSteps := 9999999) (disch := first | omega | (simp only [hN] <;> omega) | fail) only [go_sem, simprocAttr, c1]
        refine wrong_tok (hp2.loc (by omega) (by omega) q42) ?_
        intro h3 hf3
        have hn3 := hf3.n; try simp only [AHeap.alloc_n, AHeap.upd_n] at hn3
        have q43 : h3.get h.n = some ⟨1, .cells .own 0 (ndC n kv)⟩ := by simp (maxSteps := 9999999) (disch := first | omega | (simp only [hN] <;> omega) | fail) only [go_sem, simprocAttr, hf3.old]
        have q53 : h3.get (h.n + 1) = some ⟨1, .cells .own 0 [.nilIface, .int .i64 0]⟩ := by rw [hf3.old _ (by simp (maxSteps := 9999999) (disch := first | omega | (simp only [hN] <;> omega) | fail) only [go_sem, simprocAttr]; omega) (by simp (maxSteps := 9999999) (disch := first | omega | (simp only [hN] <;> omega) | fail) only [go_sem, simprocAttr]; omega), AHeap.get_upd, if_neg (by omega)]; exact q52
        simp (maxSteps := 9999999) (disch := first | omega | (simp only [hN] <;> omega) | fail) only [go_sem, simprocAttr, List.append_nil, List.nil_append]
        refine trecover_stop (n := n) q43 q53 (by omega) (by omega) (by omega) ?_
        rintro h4 hn4 hf4 ⟨v3, q44⟩ ⟨v4, q54⟩
        simp (maxSteps := 9999999) (disch := first | omega | (simp only [hN] <;> omega) | fail) only [go_sem, simprocAttr, q44, q54]
        refine hQ _ ⟨by omega, fun b hb _ => ?_⟩
        rw [hf4 _ (by omega) (by omega) (by omega), hf3.old _ (by simp (maxSteps := 9999999) (disch := first | omega | (simp only [hN] <;> omega) | fail) only [go_sem, simprocAttr]; omega) (by simp (maxSteps := 9999999) (disch := first | omega | (simp only [hN] <;> omega) | fail) only [go_sem, simprocAttr]; omega), AHeap.get_upd, if_neg (by omega), hf2.old _ (by omega) (by omega)]
        exact hf _ hb
theorem expr_read {s : Bs} (hlen : s.length < 2 ^ 62) {h : AHeap} (hG : GH h) {Q : QR} (hQ : ReadQ h Q (exprS s)) : WF F 19 [.str s] h Q := by
  refine WF.code F19 rfl ?_
  simp (maxSteps := 9999999) (disch := first | omega | (simp only [hN] <;> omega) | fail) only [go_sem, simprocAttr]
  refine read_tok (p := exprP) (fun E f => exprOf_tok (unary_tok f)) (fun E f => exprP_fine f) hlen ((hG.alloc _).alloc _) ?_
  change ReadQ _ _ (exprS s)
  cases hx : exprS s with
  | error x =>
    obtain ⟨e, q⟩ := x
    rw [hx] at hQ
    intro h1 hf1
    have hn1 := hf1.n; try simp only [AHeap.alloc_n, AHeap.upd_n] at hn1
    simp (maxSteps := 9999999) (disch := first | omega | (simp only [hN] <;> omega) | fail) only [go_sem, simprocAttr, hf1.old]
    exact hQ _ ⟨by (first | omega | (simp only [AHeap.alloc_n, AHeap.upd_n]; omega)), fun b hb hne => by (try simp only [AHeap.alloc_n, AHeap.upd_n] at hb hne); simp (maxSteps := 9999999) (disch := first | omega | (simp only [hN] <;> omega) | fail) only [go_sem, simprocAttr, hf1.old]⟩
  | ok n =>
    rw [hx] at hQ
    intro h1 kv hf1 hk1
    have hn1 := hf1.n; try simp only [AHeap.alloc_n, AHeap.upd_n] at hn1
    simp (maxSteps := 9999999) (disch := first | omega | (simp only [hN] <;> omega) | fail) only [go_sem, simprocAttr, hf1.old, hk1.flat.1, hk1.flat.2]
    exact hQ _ kv ⟨by (first | omega | (simp only [AHeap.alloc_n, AHeap.upd_n]; omega)), fun b hb hne => by (try simp only [AHeap.alloc_n, AHeap.upd_n] at hb hne); simp (maxSteps := 9999999) (disch := first | omega | (simp only [hN] <;> omega) | fail) only [go_sem, simprocAttr, hf1.old]⟩ (hk1.keep (by simp (maxSteps := 9999999) (disch := first | omega | (simp only [hN] <;> omega) | fail) only [go_sem, simprocAttr]; omega) (by simp (maxSteps := 9999999) (disch := first | omega | (simp only [hN] <;> omega) | fail) only [go_sem, simprocAttr]; exact Nat.le_refl _) fun b hb1 hb2 => by simp only [AHeap.alloc_n] at hb1; simp (maxSteps := 9999999) (disch := first | omega | (simp only [hN] <;> omega) | fail) only [go_sem, simprocAttr])
end Go.Ev
/- The statements on trees: the chapter's example; how operators group. -/
namespace Go.Ev
open Go
set_option maxRecDepth 100000
set_option maxHeartbeats 4000000

theorem row_at {vs cs : List AV} {o n i : Nat} {x : AV} (h : row vs o n = some cs) (hx : cs[i]? = some x) : vs[o + i]? = some x := by
  have hl := row_len h
  have hi : i < cs.length := by
    rcases Nat.lt_or_ge i cs.length with g | g
    · exact g
    · rw [List.getElem?_eq_none g] at hx; cases hx
  obtain ⟨h1, rfl⟩ := row_inv h
  rw [List.getElem?_take, if_pos (by omega), List.getElem?_drop] at hx
  exact hx
theorem kids2 {lo : Nat} {h : AHeap} {x y : Nd} {kv : AV} (k : KidsR lo h [x, y] kv) : ∃ b ver o c md ex bs kx ky, kv = .slice b o 2 c ex ∧ lo ≤ b ∧ b < h.n ∧ h.get b = some ⟨ver, .cells md 9 bs⟩ ∧ row bs o 18 = some (ndC x kx ++ ndC y ky) := by
  cases k with
  | row h1 h0 h2 h3 h4 h5 h6 =>
    cases h6 with
    | cons k1 k2 =>
      cases k2 with
      | cons k3 k4 =>
        cases k4
        rw [List.append_nil] at h5
        exact ⟨_, _, _, _, _, _, _, _, _, rfl, h2, h3, h4, h5⟩
theorem alive06 {h : AHeap} (hG : GH h) {Q : QR} (hQ : ∀ h', Fr h.n h h' → Q (.ret (.bool true)) h') : WF F 18 [] h Q := by
  refine WF.code F18 rfl ?_
  simp (maxSteps := 9999999) (disch := first | omega | (simp only [hN] <;> omega) | fail) only [go_sem, simprocAttr]
  refine expr_read (by decide) hG ?_
  rw [alive6a]
  intro h1 kv hf1 hk1
  have hn1 := hf1.n; try simp only [AHeap.alloc_n, AHeap.upd_n] at hn1
  have hG1 := hf1.gh hG.n hG
  obtain ⟨b, ver, o, c, md, ex, bs, kx, ky, rfl, hb1, hb2, hb3, hb4⟩ := kids2 hk1
  have hb5 : bs[o + 9 + 2]? = some (.str [42]) := row_at (i := 11) hb4 rfl
  simp (maxSteps := 9999999) (disch := first | omega | (simp only [hN] <;> omega) | fail) only [go_sem, simprocAttr, Nd.kind, Nd.pos, Nd.name, Nd.typ, Nd.n, Nd.size, Nd.obj, Nd.bits]
  have hn0 := hG1.n
  generalize hH : AHeap.upd _ _ _ _ = H
  have hHn : H.n = h1.n + 2 := by rw [← hH]; simp (maxSteps := 9999999) (disch := first | omega | (simp only [hN] <;> omega) | fail) only [go_sem, simprocAttr]
  have hHo : ∀ b', b' < h1.n → H.get b' = h1.get b' := fun b' hb' => by rw [← hH]; simp (maxSteps := 9999999) (disch := first | omega | (simp only [hN] <;> omega) | fail) only [go_sem, simprocAttr]
  have hHb : H.get b = some ⟨ver, .cells md 9 bs⟩ := by rw [hHo _ hb2]; exact hb3
  have hH1 : H.get h1.n = some ⟨1, .cells .own 0 [.int .i64 31, .int .i64 0, .str [43], .int .i64 0, .int .i64 0, .int .i64 0, .int .i64 0, .int .u64 0, .slice b o 2 c ex]⟩ := by rw [← hH]; simp (maxSteps := 9999999) (disch := first | omega | (simp only [hN] <;> omega) | fail) only [go_sem, simprocAttr]
  have hH2 : H.get (h1.n + 1) = some ⟨1, .cells .own 0 [.nilIface, .int .i64 0]⟩ := by rw [← hH]; simp (maxSteps := 9999999) (disch := first | omega | (simp only [hN] <;> omega) | fail) only [go_sem, simprocAttr]
  have hGH : GH H := (show Fr h1.n h1 H from ⟨by omega, fun b hb _ => hHo b hb⟩).gh hG1.n hG1
  refine expr_read (by decide) hGH ?_
  rw [alive6b]
  intro h2 hf2
  have hn2 := hf2.n; try simp only [AHeap.alloc_n, AHeap.upd_n] at hn2
  have hG2 := hf2.gh hGH.n hGH
  have q1 := (hf2.all (b := h1.n) (by omega)).trans hH1
  have q2 := (hf2.all (b := h1.n + 1) (by omega)).trans hH2
  have q3 := (hf2.all (b := b) (by omega)).trans hHb
  have c1 : decide ((1 : Int) < ((2 : Nat) : Int)) = true := by decide
  simp (maxSteps := 9999999) (disch := first | omega | (simp only [hN] <;> omega) | fail) only [go_sem, simprocAttr, eqT_nil, q1, q2, q3, c1, hb5]
  have hlt : h1.n + 2 ≤ h2.n := by omega
  generalize hK : AHeap.upd _ _ _ _ = K
  have hKn : K.n = h2.n + 2 := by rw [← hK]; simp (maxSteps := 9999999) (disch := first | omega | (simp only [hN] <;> omega) | fail) only [go_sem, simprocAttr]
  have hKo : ∀ b', b' < h2.n → K.get b' = h2.get b' := fun b' hb' => by rw [← hK]; simp (maxSteps := 9999999) (disch := first | omega | (simp only [hN] <;> omega) | fail) only [go_sem, simprocAttr]
  have hK2 : K.get (h2.n + 1) = some ⟨1, .cells .own 0 [errAV 2, .int .i64 3]⟩ := by rw [← hK]; simp (maxSteps := 9999999) (disch := first | omega | (simp only [hN] <;> omega) | fail) only [go_sem, simprocAttr]
  have hGK : GH K := (show Fr h2.n h2 K from ⟨by omega, fun b hb _ => hKo b hb⟩).gh hG2.n hG2
  refine num_spec (e := 2) hGK (by decide) (by decide) ?_
  intro h3 hf3
  have hn3 := hf3.n; try simp only [AHeap.alloc_n, AHeap.upd_n] at hn3
  have q4 := (hf3.all (b := h2.n + 1) (by omega)).trans hK2
  simp (maxSteps := 9999999) (disch := first | omega | (simp only [hN] <;> omega) | fail) only [go_sem, simprocAttr, q4]
  refine hQ _ ⟨by omega, fun b hb _ => ?_⟩
  rw [hf3.all (by omega), hKo _ (by omega), hf2.all (by omega), hHo _ (by omega), hf1.all hb]
end Go.Ev
/- Trees: how many nodes they have, how deep they are. -/
namespace Go.Ev
open Go
set_option maxRecDepth 100000
set_option maxHeartbeats 4000000

theorem RowsR.get {lo : Nat} {h : AHeap} : {ns : List Nd} → {css : List AV} → RowsR lo h ns css → ∀ {i : Nat} (hi : i < ns.length), ∃ kv, row css (i * 9) 9 = some (ndC ns[i] kv) ∧ KidsR lo h ns[i].kids kv
  | _, _, .nil, i, hi => absurd hi (Nat.not_lt_zero _)
  | _, _, .cons (n := n) (ns := ns) (kv := kv) (css := css) k r, 0, _ => by
    refine ⟨kv, ?_, k⟩
    have : ((ndC n kv ++ css).drop 0).take 9 = ndC n kv := by simp [ndC]
    unfold row
    rw [Nat.zero_mul, ble_nat, decide_eq_true (by simp [ndC])]
    simp [ndC]
  | _, _, .cons (n := n) (ns := ns) (kv := kv) (css := css) k r, i + 1, hi => by
    obtain ⟨kv', h1, h2⟩ := r.get (i := i) (by simpa using hi)
    refine ⟨kv', ?_, h2⟩
    have e : (i + 1) * 9 = i * 9 + 1 + 1 + 1 + 1 + 1 + 1 + 1 + 1 + 1 := by omega
    rw [e]
    simp only [ndC, List.cons_append, List.nil_append, row_tl]
    exact h1

theorem KidsR.len {lo : Nat} {h : AHeap} {ns : List Nd} {v : AV} (k : KidsR lo h ns v) : lenA v = some (ns.length : Int) := by
  cases k <;> rfl
theorem count_spec : ∀ (s : Nat) {nd : Nd}, nd.count ≤ s → s < 2 ^ 62 → ∀ {lo : Nat} {h : AHeap} {kv : AV} {Q : QR}, KidsR lo h nd.kids kv → (∀ h', Fr h.n h h' → Q (.ret (.int .i64 (nd.count : Int))) h') → WF F 28 [.agg (ndC nd kv)] h Q := by
  intro s
  induction s with
  | zero => intro nd h0; cases nd; simp [Nd.count] at h0
  | succ s ih =>
    intro nd hs hs2 lo h kv Q hk hQ
    have hcnt : nd.count = 1 + cntL nd.kids := by cases nd; rfl
    generalize nd.kids = ks at hk hcnt
    refine WF.code F28 rfl ?_
    simp (maxSteps := 9999999) (disch := first | omega | (simp only [hN] <;> omega) | fail) only [go_sem, simprocAttr, hk.flat.1, hk.flat.2, hk.len]
    refine wp_loop (fun n a h' => ∃ i : Nat, n = ks.length - i ∧ i ≤ ks.length ∧ Fr h.n h h' ∧ a.tm.get 3 = some (.int .i64 ((1 + cntL (ks.take i) : Nat) : Int)) ∧ a.tm.get 7 = some kv ∧ a.tm.get 8 = some (.int .i64 (ks.length : Int)) ∧ a.tm.get 9 = some (.int .i64 (i : Int)) ∧ a.df = []) ?_ ks.length ?_
    · rintro n ⟨t, df⟩ h2 ⟨i, hn, hi, hf2, k3, k7, k8, k9, hdf⟩
      simp only at k3 k7 k8 k9 hdf
      subst hdf
      have hn2 := hf2.n; try simp only [AHeap.alloc_n, AHeap.upd_n] at hn2
      simp (maxSteps := 9999999) (disch := first | omega | (simp only [hN] <;> omega) | fail) only [go_sem, simprocAttr, k8, k9]
      (first | refine condP_splitN (fun hlt => ?_) (fun hlt => ?_) | refine wantP_splitN (fun hlt => ?_) (fun hlt => ?_) | refine wantPD_splitN (fun hlt => ?_) (fun hlt => ?_) | refine condP_split (fun hlt => ?_) (fun hlt => ?_) | refine wantP_split (fun hlt => ?_) (fun hlt => ?_) | refine wantPD_split (fun hlt => ?_) (fun hlt => ?_))
      · have hil : i < ks.length := (by have := of_decide_eq_true hlt; omega)
        have hstep := cntL_take hil
        have hle := cntL_le (ns := ks) (i + 1)
        cases hk with
        | nil => simp at hil
        | emp => simp at hil
        | row g1 g0 g2 g3 g4 gr g5 =>
          rename_i b ver o c md ex bs css
          obtain ⟨kv', hr, hk'⟩ := g5.get hil
          rw [← row_sub (o := o) gr (by omega)] at hr
          have g4' : h2.get b = some ⟨ver, .cells md 9 bs⟩ := by rw [hf2.all g3]; exact g4
          generalize ks[i] = m at hr hk' hstep
          simp (maxSteps := 9999999) (disch := first | omega | (simp only [hN] <;> omega) | fail) only [go_sem, simprocAttr, k3, k7, k8, k9, Int.toNat_natCast, g4', hr, hk'.flat.1, hk'.flat.2]
          refine ih (by omega) (by omega) (hk'.keep (Nat.le_refl _) (by simp (maxSteps := 9999999) (disch := first | omega | (simp only [hN] <;> omega) | fail) only [go_sem, simprocAttr]; omega) fun b' hb1 hb2 => ?_) ?_
          · simp (maxSteps := 9999999) (disch := first | omega | (simp only [hN] <;> omega) | fail) only [go_sem, simprocAttr, hf2.old]
          · intro h3 hf3
            have hn3 := hf3.n; try simp only [AHeap.alloc_n, AHeap.upd_n] at hn3
            have hlen := len_le_cnt ks
            have hb1 : 1 + cntL (ks.take i) + m.count < 2 ^ 62 := by omega
            have hcast : some (AV.int .i64 (((1 + cntL (ks.take i) : Nat) : Int) + (m.count : Int))) = some (AV.int .i64 ((1 + cntL (ks.take (i + 1)) : Nat) : Int)) := by
              have : (((1 + cntL (ks.take i) : Nat) : Int) + (m.count : Int)) = ((1 + cntL (ks.take (i + 1)) : Nat) : Int) := by omega
              rw [this]
            simp (maxSteps := 9999999) (disch := first | omega | (simp only [hN] <;> omega) | fail) only [go_sem, simprocAttr, k3, k7, k8, k9]
            exact ⟨_, hn ▸ Nat.sub_lt_sub_left hil (Nat.lt_succ_self i), i + 1, rfl, hil, ⟨by (first | omega | (simp only [AHeap.alloc_n, AHeap.upd_n]; omega)), fun b hb hne => by (try simp only [AHeap.alloc_n, AHeap.upd_n] at hb hne); simp (maxSteps := 9999999) (disch := first | omega | (simp only [hN] <;> omega) | fail) only [go_sem, simprocAttr, hf3.old, hf2.old]⟩, hcast, rfl⟩
      · have hil : i = ks.length := by have := of_decide_eq_false hlt; omega
        subst hil
        rw [List.take_length] at k3
        simp (maxSteps := 9999999) (disch := first | omega | (simp only [hN] <;> omega) | fail) only [go_sem, simprocAttr, k3]
        rw [← hcnt]
        exact hQ _ hf2
    · exact ⟨0, rfl, Nat.zero_le _, ⟨by (first | omega | (simp only [AHeap.alloc_n, AHeap.upd_n]; omega)), fun b hb hne => by (try simp only [AHeap.alloc_n, AHeap.upd_n] at hb hne); simp (maxSteps := 9999999) (disch := first | omega | (simp only [hN] <;> omega) | fail) only [go_sem, simprocAttr]⟩, by (first | (simp (maxSteps := 9999999) (disch := first | omega | (simp only [hN] <;> omega) | fail) only [go_sem, simprocAttr]; done) | (simp (maxSteps := 9999999) (disch := first | omega | (simp only [hN] <;> omega) | fail) only [go_sem, simprocAttr]; rfl)), by simp (maxSteps := 9999999) (disch := first | omega | (simp only [hN] <;> omega) | fail) only [go_sem, simprocAttr], by simp (maxSteps := 9999999) (disch := first | omega | (simp only [hN] <;> omega) | fail) only [go_sem, simprocAttr], by (first | (simp (maxSteps := 9999999) (disch := first | omega | (simp only [hN] <;> omega) | fail) only [go_sem, simprocAttr]; done) | (simp (maxSteps := 9999999) (disch := first | omega | (simp only [hN] <;> omega) | fail) only [go_sem, simprocAttr]; rfl)), by simp (maxSteps := 9999999) (disch := first | omega | (simp only [hN] <;> omega) | fail) only [go_sem, simprocAttr]⟩
theorem mx_max {x y : Nat} : mxA true (.int .i64 (x : Int)) [.int .i64 (y : Int)] = some (.int .i64 ((max x y : Nat) : Int)) := by
  have e : (bif decide ((y : Int) > (x : Int)) then (y : Int) else (x : Int)) = ((max x y : Nat) : Int) := by
    by_cases h : y > x
    · rw [decide_eq_true (by omega)]; simp only [cond_true]; omega
    · rw [decide_eq_false (by omega)]; simp only [cond_false]; omega
  simp only [mxA, cond_true, e]
theorem depth_spec : ∀ (s : Nat) {nd : Nd}, nd.count ≤ s → s < 2 ^ 62 → ∀ {lo : Nat} {h : AHeap} {kv : AV} {Q : QR}, KidsR lo h nd.kids kv → (∀ h', Fr h.n h h' → Q (.ret (.int .i64 (nd.depth : Int))) h') → WF F 29 [.agg (ndC nd kv)] h Q := by
  intro s
  induction s with
  | zero => intro nd h0; cases nd; simp [Nd.count] at h0
  | succ s ih =>
    intro nd hs hs2 lo h kv Q hk hQ
    have hcnt : nd.count = 1 + cntL nd.kids := by cases nd; rfl
    have hdpt : nd.depth = 1 + dptL nd.kids := by cases nd; rfl
    have hdle := depth_le nd
    generalize nd.kids = ks at hk hcnt hdpt
    refine WF.code F29 rfl ?_
    simp (maxSteps := 9999999) (disch := first | omega | (simp only [hN] <;> omega) | fail) only [go_sem, simprocAttr, hk.flat.1, hk.flat.2, hk.len]
    refine wp_loop (fun n a h' => ∃ i : Nat, n = ks.length - i ∧ i ≤ ks.length ∧ Fr h.n h h' ∧ a.tm.get 3 = some (.int .i64 ((dptL (ks.take i) : Nat) : Int)) ∧ a.tm.get 7 = some kv ∧ a.tm.get 8 = some (.int .i64 (ks.length : Int)) ∧ a.tm.get 9 = some (.int .i64 (i : Int)) ∧ a.df = []) ?_ ks.length ?_
    · rintro n ⟨t, df⟩ h2 ⟨i, hn, hi, hf2, k3, k7, k8, k9, hdf⟩
      simp only at k3 k7 k8 k9 hdf
      subst hdf
      have hn2 := hf2.n; try simp only [AHeap.alloc_n, AHeap.upd_n] at hn2
      simp (maxSteps := 9999999) (disch := first | omega | (simp only [hN] <;> omega) | fail) only [go_sem, simprocAttr, k8, k9]
      (first | refine condP_splitN (fun hlt => ?_) (fun hlt => ?_) | refine wantP_splitN (fun hlt => ?_) (fun hlt => ?_) | refine wantPD_splitN (fun hlt => ?_) (fun hlt => ?_) | refine condP_split (fun hlt => ?_) (fun hlt => ?_) | refine wantP_split (fun hlt => ?_) (fun hlt => ?_) | refine wantPD_split (fun hlt => ?_) (fun hlt => ?_))
      · have hil : i < ks.length := (by have := of_decide_eq_true hlt; omega)
        have hstep := cntL_take hil
        have hle := cntL_le (ns := ks) (i + 1)
        have hdst := dptL_take hil
        cases hk with
        | nil => simp at hil
        | emp => simp at hil
        | row g1 g0 g2 g3 g4 gr g5 =>
          rename_i b ver o c md ex bs css
          obtain ⟨kv', hr, hk'⟩ := g5.get hil
          rw [← row_sub (o := o) gr (by omega)] at hr
          have g4' : h2.get b = some ⟨ver, .cells md 9 bs⟩ := by rw [hf2.all g3]; exact g4
          generalize ks[i] = m at hr hk' hstep hdst
          simp (maxSteps := 9999999) (disch := first | omega | (simp only [hN] <;> omega) | fail) only [go_sem, simprocAttr, k3, k7, k8, k9, Int.toNat_natCast, g4', hr, hk'.flat.1, hk'.flat.2]
          refine ih (by omega) (by omega) (hk'.keep (Nat.le_refl _) (by simp (maxSteps := 9999999) (disch := first | omega | (simp only [hN] <;> omega) | fail) only [go_sem, simprocAttr]; omega) fun b' hb1 hb2 => ?_) ?_
          · simp (maxSteps := 9999999) (disch := first | omega | (simp only [hN] <;> omega) | fail) only [go_sem, simprocAttr, hf2.old]
          · intro h3 hf3
            have hn3 := hf3.n; try simp only [AHeap.alloc_n, AHeap.upd_n] at hn3
            have hlen := len_le_cnt ks
            have hb1 : 1 + cntL (ks.take i) + m.count < 2 ^ 62 := by omega
            simp (maxSteps := 9999999) (disch := first | omega | (simp only [hN] <;> omega) | fail) only [go_sem, simprocAttr, k3, k7, k8, k9, mx_max]
            exact ⟨_, hn ▸ Nat.sub_lt_sub_left hil (Nat.lt_succ_self i), i + 1, rfl, hil, ⟨by (first | omega | (simp only [AHeap.alloc_n, AHeap.upd_n]; omega)), fun b hb hne => by (try simp only [AHeap.alloc_n, AHeap.upd_n] at hb hne); simp (maxSteps := 9999999) (disch := first | omega | (simp only [hN] <;> omega) | fail) only [go_sem, simprocAttr, hf3.old, hf2.old]⟩, by rw [hdst], rfl⟩
      · have hil : i = ks.length := by have := of_decide_eq_false hlt; omega
        subst hil
        rw [List.take_length] at k3
        simp (maxSteps := 9999999) (disch := first | omega | (simp only [hN] <;> omega) | fail) only [go_sem, simprocAttr, k3]
        have e : ((dptL ks : Int) + 1) = (nd.depth : Int) := by omega
        rw [e]
        exact hQ _ hf2
    · exact ⟨0, rfl, Nat.zero_le _, ⟨by (first | omega | (simp only [AHeap.alloc_n, AHeap.upd_n]; omega)), fun b hb hne => by (try simp only [AHeap.alloc_n, AHeap.upd_n] at hb hne); simp (maxSteps := 9999999) (disch := first | omega | (simp only [hN] <;> omega) | fail) only [go_sem, simprocAttr]⟩, by (first | (simp (maxSteps := 9999999) (disch := first | omega | (simp only [hN] <;> omega) | fail) only [go_sem, simprocAttr]; done) | (simp (maxSteps := 9999999) (disch := first | omega | (simp only [hN] <;> omega) | fail) only [go_sem, simprocAttr]; rfl)), by simp (maxSteps := 9999999) (disch := first | omega | (simp only [hN] <;> omega) | fail) only [go_sem, simprocAttr], by simp (maxSteps := 9999999) (disch := first | omega | (simp only [hN] <;> omega) | fail) only [go_sem, simprocAttr], by (first | (simp (maxSteps := 9999999) (disch := first | omega | (simp only [hN] <;> omega) | fail) only [go_sem, simprocAttr]; done) | (simp (maxSteps := 9999999) (disch := first | omega | (simp only [hN] <;> omega) | fail) only [go_sem, simprocAttr]; rfl)), by simp (maxSteps := 9999999) (disch := first | omega | (simp only [hN] <;> omega) | fail) only [go_sem, simprocAttr]⟩
end Go.Ev
/- Trees: which are the same. -/
namespace Go.Ev
open Go
set_option maxRecDepth 100000
set_option maxHeartbeats 4000000

theorem sameL_len : ∀ {a b : List Nd}, sameL a b = true → a.length = b.length
  | [], [], _ => rfl
  | x :: a, y :: b, h => by simp only [sameL, Bool.and_eq_true] at h; simp [sameL_len h.2]
  | [], y :: b, h => by simp [sameL] at h
  | x :: a, [], h => by simp [sameL] at h
def SameFn (s : Nat) : Prop := ∀ {n m : Nd}, n.count ≤ s → ∀ {lo : Nat} {h : AHeap} {kv kw : AV} {Q : QR}, KidsR lo h n.kids kv → KidsR lo h m.kids kw → (∀ h', Fr h.n h h' → Q (.ret (.bool (n.same m))) h') → WF F 27 [.agg (ndC n kv), .agg (ndC m kw)] h Q
theorem equal_spec {s : Nat} (hS : SameFn s) {ks ms : List Nd} (hs : cntL ks ≤ s) (hs2 : s < 2 ^ 62) {lo : Nat} {h : AHeap} {kv kw : AV} {Q : QR} (hk : KidsR lo h ks kv) (hm : KidsR lo h ms kw) (hQ : ∀ h', Fr h.n h h' → Q (.ret (.bool (sameL ks ms))) h') : WF F 46 [kv, kw, .func (.func 27) [] []] h Q := by
  refine WF.code F46 rfl ?_
  simp (maxSteps := 9999999) (disch := first | omega | (simp only [hN] <;> omega) | fail) only [go_sem, simprocAttr, hk.len, hm.len]
  have hlc := len_le_cnt ks
  by_cases hl : ks.length = ms.length
  · have e : ((ks.length : Int) != (ms.length : Int)) = false := by simp [hl]
    simp (maxSteps := 9999999) (disch := first | omega | (simp only [hN] <;> omega) | fail) only [go_sem, simprocAttr, e, hk.len]
    refine wp_loop (fun n a h' => ∃ i : Nat, n = ks.length - i ∧ i ≤ ks.length ∧ Fr h.n h h' ∧ sameL ks ms = sameL (ks.drop i) (ms.drop i) ∧ a.tm.get 1 = some kw ∧ a.tm.get 2 = some (.func (.func 27) [] []) ∧ a.tm.get 15 = some kv ∧ a.tm.get 16 = some (.int .i64 (ks.length : Int)) ∧ a.tm.get 17 = some (.int .i64 (i : Int)) ∧ a.df = []) ?_ ks.length ?_
    · rintro n ⟨t, df⟩ h2 ⟨i, hn, hi, hf2, hsm, k1, k2, k15, k16, k17, hdf⟩
      simp only at k1 k2 k15 k16 k17 hdf
      subst hdf
      have hn2 := hf2.n; try simp only [AHeap.alloc_n, AHeap.upd_n] at hn2
      simp (maxSteps := 9999999) (disch := first | omega | (simp only [hN] <;> omega) | fail) only [go_sem, simprocAttr, k16, k17]
      (first | refine condP_splitN (fun hlt => ?_) (fun hlt => ?_) | refine wantP_splitN (fun hlt => ?_) (fun hlt => ?_) | refine wantPD_splitN (fun hlt => ?_) (fun hlt => ?_) | refine condP_split (fun hlt => ?_) (fun hlt => ?_) | refine wantP_split (fun hlt => ?_) (fun hlt => ?_) | refine wantPD_split (fun hlt => ?_) (fun hlt => ?_))
      · have hil : i < ks.length := (by have := of_decide_eq_true hlt; omega)
        have him : i < ms.length := by omega
        have hcs := cntL_take hil
        have hcl := cntL_le (ns := ks) (i + 1)
        have hd1 : ks.drop i = ks[i] :: ks.drop (i + 1) := List.drop_eq_getElem_cons hil
        have hd2 : ms.drop i = ms[i] :: ms.drop (i + 1) := List.drop_eq_getElem_cons him
        rw [hd1, hd2, sameL] at hsm
        cases hk with
        | nil => simp at hil
        | emp => simp at hil
        | row g1 g0 g2 g3 g4 gr g5 =>
          rename_i b ver o c md ex bs css
          cases hm with
          | nil => simp at him
          | emp => simp at him
          | row f1 f0 f2 f3 f4 fr f5 =>
            rename_i b' ver' o' c' md' ex' bs' css'
            obtain ⟨kv', hr, hk'⟩ := g5.get hil
            obtain ⟨kw', hr', hm'⟩ := f5.get him
            rw [← row_sub (o := o) gr (by omega)] at hr
            rw [← row_sub (o := o') fr (by omega)] at hr'
            have g4' : h2.get b = some ⟨ver, .cells md 9 bs⟩ := by rw [hf2.all g3]; exact g4
            have f4' : h2.get b' = some ⟨ver', .cells md' 9 bs'⟩ := by rw [hf2.all f3]; exact f4
            generalize ks[i] = n1 at hr hk' hcs hsm
            generalize ms[i] = m1 at hr' hm' hsm
            have c1 : decide ((i : Int) < (ms.length : Int)) = true := decide_eq_true (by omega)
            simp (maxSteps := 9999999) (disch := first | omega | (simp only [hN] <;> omega) | fail) only [go_sem, simprocAttr, k1, k2, k15, k16, k17, Int.toNat_natCast, g4', f4', hr, hr', hk'.flat.1, hk'.flat.2, hm'.flat.1, hm'.flat.2, c1, List.append_nil, List.nil_append]
            refine hS (by omega) (hk'.keep (Nat.le_refl _) (by simp (maxSteps := 9999999) (disch := first | omega | (simp only [hN] <;> omega) | fail) only [go_sem, simprocAttr]; omega) fun x hb1 hb2 => ?_) (hm'.keep (Nat.le_refl _) (by simp (maxSteps := 9999999) (disch := first | omega | (simp only [hN] <;> omega) | fail) only [go_sem, simprocAttr]; omega) fun x hb1 hb2 => ?_) ?_
            · simp (maxSteps := 9999999) (disch := first | omega | (simp only [hN] <;> omega) | fail) only [go_sem, simprocAttr, hf2.old]
            · simp (maxSteps := 9999999) (disch := first | omega | (simp only [hN] <;> omega) | fail) only [go_sem, simprocAttr, hf2.old]
            · intro h3 hf3
              have hn3 := hf3.n; try simp only [AHeap.alloc_n, AHeap.upd_n] at hn3
              cases hb : n1.same m1 with
              | true =>
                rw [hb, Bool.true_and] at hsm
                simp (maxSteps := 9999999) (disch := first | omega | (simp only [hN] <;> omega) | fail) only [go_sem, simprocAttr, k1, k2, k15, k16, k17]
                exact ⟨_, hn ▸ Nat.sub_lt_sub_left hil (Nat.lt_succ_self i), i + 1, rfl, hil, ⟨by (first | omega | (simp only [AHeap.alloc_n, AHeap.upd_n]; omega)), fun b hb hne => by (try simp only [AHeap.alloc_n, AHeap.upd_n] at hb hne); simp (maxSteps := 9999999) (disch := first | omega | (simp only [hN] <;> omega) | fail) only [go_sem, simprocAttr, hf3.old, hf2.old]⟩, hsm, rfl⟩
              | false =>
                rw [hb, Bool.false_and] at hsm
                simp (maxSteps := 9999999) (disch := first | omega | (simp only [hN] <;> omega) | fail) only [go_sem, simprocAttr]
                rw [← hsm]
                exact hQ _ ⟨by (first | omega | (simp only [AHeap.alloc_n, AHeap.upd_n]; omega)), fun b hb hne => by (try simp only [AHeap.alloc_n, AHeap.upd_n] at hb hne); simp (maxSteps := 9999999) (disch := first | omega | (simp only [hN] <;> omega) | fail) only [go_sem, simprocAttr, hf3.old, hf2.old]⟩
      · have hil : i = ks.length := by have := of_decide_eq_false hlt; omega
        subst hil
        rw [List.drop_length, hl, List.drop_length] at hsm
        simp (maxSteps := 9999999) (disch := first | omega | (simp only [hN] <;> omega) | fail) only [go_sem, simprocAttr]
        have : sameL ks ms = true := hsm
        rw [← this]
        exact hQ _ hf2
    · exact ⟨0, rfl, Nat.zero_le _, Fr.refl _ _, rfl, by simp (maxSteps := 9999999) (disch := first | omega | (simp only [hN] <;> omega) | fail) only [go_sem, simprocAttr], by simp (maxSteps := 9999999) (disch := first | omega | (simp only [hN] <;> omega) | fail) only [go_sem, simprocAttr], by simp (maxSteps := 9999999) (disch := first | omega | (simp only [hN] <;> omega) | fail) only [go_sem, simprocAttr], by simp (maxSteps := 9999999) (disch := first | omega | (simp only [hN] <;> omega) | fail) only [go_sem, simprocAttr], by (first | (simp (maxSteps := 9999999) (disch := first | omega | (simp only [hN] <;> omega) | fail) only [go_sem, simprocAttr]; done) | (simp (maxSteps := 9999999) (disch := first | omega | (simp only [hN] <;> omega) | fail) only [go_sem, simprocAttr]; rfl)), by simp (maxSteps := 9999999) (disch := first | omega | (simp only [hN] <;> omega) | fail) only [go_sem, simprocAttr]⟩
  · have e : ((ks.length : Int) != (ms.length : Int)) = true := by simp; omega
    simp (maxSteps := 9999999) (disch := first | omega | (simp only [hN] <;> omega) | fail) only [go_sem, simprocAttr, e]
    have : sameL ks ms = false := by
      cases hx : sameL ks ms with
      | false => rfl
      | true => exact absurd (sameL_len hx) hl
    rw [← this]
    exact hQ _ (Fr.refl _ _)
theorem same_eq (n m : Nd) : n.same m = (n.kind == m.kind && n.name == m.name && n.typ == m.typ && n.n == m.n && n.size == m.size && n.obj == m.obj && n.bits == m.bits && sameL n.kids m.kids) := by cases n; cases m; rfl
theorem same_spec : ∀ s, s < 2 ^ 62 → SameFn s := by
  intro s
  induction s with
  | zero => intro _ n m h0; have := count_pos n; omega
  | succ s ih =>
    intro hs n m hc lo h kv kw Q hk hm hQ
    rw [same_eq] at hQ
    have hcnt : n.count = 1 + cntL n.kids := by cases n; rfl
    refine WF.code F27 rfl ?_
    generalize e1 : (n.kind == m.kind) = b1 at hQ
    generalize e2 : (n.name == m.name) = b2 at hQ
    generalize e3 : (n.typ == m.typ) = b3 at hQ
    generalize e4 : (n.n == m.n) = b4 at hQ
    generalize e5 : (n.size == m.size) = b5 at hQ
    generalize e6 : (n.obj == m.obj) = b6 at hQ
    generalize e7 : (n.bits == m.bits) = b7 at hQ
    have hf : Fr h.n h ((h.alloc (.cells .own 0 (ndC n kv))).alloc (.cells .own 0 (ndC m kw))) := ⟨by (first | omega | (simp only [AHeap.alloc_n, AHeap.upd_n]; omega)), fun b hb hne => by (try simp only [AHeap.alloc_n, AHeap.upd_n] at hb hne); simp (maxSteps := 9999999) (disch := first | omega | (simp only [hN] <;> omega) | fail) only [go_sem, simprocAttr]⟩
    cases b1
    · simp (maxSteps := 9999999) (disch := first | omega | (simp only [hN] <;> omega) | fail) only [go_sem, simprocAttr, hk.flat.1, hk.flat.2, hm.flat.1, hm.flat.2, e1]
      exact hQ _ hf
    cases b2
    · simp (maxSteps := 9999999) (disch := first | omega | (simp only [hN] <;> omega) | fail) only [go_sem, simprocAttr, hk.flat.1, hk.flat.2, hm.flat.1, hm.flat.2, e1, e2]
      exact hQ _ hf
    cases b3
    · simp (maxSteps := 9999999) (disch := first | omega | (simp only [hN] <;> omega) | fail) only [go_sem, simprocAttr, hk.flat.1, hk.flat.2, hm.flat.1, hm.flat.2, e1, e2, e3]
      exact hQ _ hf
    cases b4
    · simp (maxSteps := 9999999) (disch := first | omega | (simp only [hN] <;> omega) | fail) only [go_sem, simprocAttr, hk.flat.1, hk.flat.2, hm.flat.1, hm.flat.2, e1, e2, e3, e4]
      exact hQ _ hf
    cases b5
    · simp (maxSteps := 9999999) (disch := first | omega | (simp only [hN] <;> omega) | fail) only [go_sem, simprocAttr, hk.flat.1, hk.flat.2, hm.flat.1, hm.flat.2, e1, e2, e3, e4, e5]
      exact hQ _ hf
    cases b6
    · simp (maxSteps := 9999999) (disch := first | omega | (simp only [hN] <;> omega) | fail) only [go_sem, simprocAttr, hk.flat.1, hk.flat.2, hm.flat.1, hm.flat.2, e1, e2, e3, e4, e5, e6]
      exact hQ _ hf
    cases b7
    · simp (maxSteps := 9999999) (disch := first | omega | (simp only [hN] <;> omega) | fail) only [go_sem, simprocAttr, hk.flat.1, hk.flat.2, hm.flat.1, hm.flat.2, e1, e2, e3, e4, e5, e6, e7]
      exact hQ _ hf
    simp (maxSteps := 9999999) (disch := first | omega | (simp only [hN] <;> omega) | fail) only [go_sem, simprocAttr, hk.flat.1, hk.flat.2, hm.flat.1, hm.flat.2, e1, e2, e3, e4, e5, e6, e7]
    refine equal_spec (ih (by omega)) (by omega) (by omega) (hk.keep (Nat.le_refl _) (by simp (maxSteps := 9999999) (disch := first | omega | (simp only [hN] <;> omega) | fail) only [go_sem, simprocAttr]; omega) fun x hb1 hb2 => ?_) (hm.keep (Nat.le_refl _) (by simp (maxSteps := 9999999) (disch := first | omega | (simp only [hN] <;> omega) | fail) only [go_sem, simprocAttr]; omega) fun x hb1 hb2 => ?_) ?_
    · simp (maxSteps := 9999999) (disch := first | omega | (simp only [hN] <;> omega) | fail) only [go_sem, simprocAttr]
    · simp (maxSteps := 9999999) (disch := first | omega | (simp only [hN] <;> omega) | fail) only [go_sem, simprocAttr]
    · intro h3 hf3
      have hn3 := hf3.n; try simp only [AHeap.alloc_n, AHeap.upd_n] at hn3
      simp (maxSteps := 9999999) (disch := first | omega | (simp only [hN] <;> omega) | fail) only [go_sem, simprocAttr]
      exact hQ _ ⟨by (first | omega | (simp only [AHeap.alloc_n, AHeap.upd_n]; omega)), fun b hb hne => by (try simp only [AHeap.alloc_n, AHeap.upd_n] at hb hne); simp (maxSteps := 9999999) (disch := first | omega | (simp only [hN] <;> omega) | fail) only [go_sem, simprocAttr, hf3.old]⟩
end Go.Ev
/- Trees, as the document's own functions see them: how many nodes, how deep, up to a bound. -/
namespace Go.Ev
open Go
set_option maxRecDepth 100000
set_option maxHeartbeats 4000000

@[go_sem] theorem wantB_undef {w : Bool} : wantB (some undefA) w = false := by cases w <;> rfl
theorem KidsR.small {lo : Nat} {h : AHeap} {ns : List Nd} {v : AV} (k : KidsR lo h ns v) : ns.length < 2 ^ 61 := by
  cases k with
  | nil => simp
  | emp => simp
  | row _ h0 _ _ _ _ _ => exact h0
theorem nodes_spec : ∀ (s : Nat) {nd : Nd}, nd.count ≤ s → ∀ {m lo : Nat} {h : AHeap} {kv : AV} {Q : QR}, m < 2 ^ 62 → KidsR lo h nd.kids kv → (∀ h', Fr h.n h h' → Q (.ret (.int .i64 ((min nd.count (m + 1) : Nat) : Int))) h') → WF F 25 [.agg (ndC nd kv), .int .i64 (m : Int)] h Q := by
  intro s
  induction s with
  | zero => intro nd h0; cases nd; simp [Nd.count] at h0
  | succ s ih =>
    intro nd hs m lo h kv Q hm hk hQ
    have hcnt : nd.count = 1 + cntL nd.kids := by cases nd; rfl
    have hsm := hk.small
    generalize nd.kids = ks at hk hcnt hsm
    refine WF.code F25 rfl ?_
    simp (maxSteps := 9999999) (disch := first | omega | (simp only [hN] <;> omega) | fail) only [go_sem, simprocAttr, hk.flat.1, hk.flat.2, hk.len]
    refine wp_loop (fun n a h' => ∃ i : Nat, n = ks.length - i ∧ i ≤ ks.length ∧ Fr h.n h h' ∧ a.tm.get 1 = some (.int .i64 (m : Int)) ∧ a.tm.get 5 = some (.int .i64 ((min (1 + cntL (ks.take i)) (m + 1) : Nat) : Int)) ∧ a.tm.get 9 = some kv ∧ a.tm.get 10 = some (.int .i64 (ks.length : Int)) ∧ a.tm.get 11 = some (.int .i64 (i : Int)) ∧ a.df = []) ?_ ks.length ?_
    · rintro n ⟨t, df⟩ h2 ⟨i, hn, hi, hf2, k1, k5, k9, k10, k11, hdf⟩
      simp only at k1 k5 k9 k10 k11 hdf
      subst hdf
      have hn2 := hf2.n; try simp only [AHeap.alloc_n, AHeap.upd_n] at hn2
      simp (maxSteps := 9999999) (disch := first | omega | (simp only [hN] <;> omega) | fail) only [go_sem, simprocAttr, k10, k11]
      (first | refine condP_splitN (fun hlt => ?_) (fun hlt => ?_) | refine wantP_splitN (fun hlt => ?_) (fun hlt => ?_) | refine wantPD_splitN (fun hlt => ?_) (fun hlt => ?_) | refine condP_split (fun hlt => ?_) (fun hlt => ?_) | refine wantP_split (fun hlt => ?_) (fun hlt => ?_) | refine wantPD_split (fun hlt => ?_) (fun hlt => ?_))
      · have hil : i < ks.length := (by have := of_decide_eq_true hlt; omega)
        have hstep := cntL_take hil
        have hle := cntL_le (ns := ks) (i + 1)
        cases hk with
        | nil => simp at hil
        | emp => simp at hil
        | row g1 g0 g2 g3 g4 gr g5 =>
          rename_i b ver o c md ex bs css
          obtain ⟨kv', hr, hk'⟩ := g5.get hil
          rw [← row_sub (o := o) gr (by omega)] at hr
          have g4' : h2.get b = some ⟨ver, .cells md 9 bs⟩ := by rw [hf2.all g3]; exact g4
          generalize ks[i] = nd1 at hr hk' hstep
          generalize hc : min (1 + cntL (ks.take i)) (m + 1) = c0 at k5
          simp (maxSteps := 9999999) (disch := first | omega | (simp only [hN] <;> omega) | fail) only [go_sem, simprocAttr, k1, k5, k9, k10, k11, Int.toNat_natCast, g4', hr, hk'.flat.1, hk'.flat.2]
          (first | refine condP_splitN (fun hbig => ?_) (fun hbig => ?_) | refine wantP_splitN (fun hbig => ?_) (fun hbig => ?_) | refine wantPD_splitN (fun hbig => ?_) (fun hbig => ?_) | refine condP_split (fun hbig => ?_) (fun hbig => ?_) | refine wantP_split (fun hbig => ?_) (fun hbig => ?_) | refine wantPD_split (fun hbig => ?_) (fun hbig => ?_))
          · have hcm : m < c0 := (by have := of_decide_eq_true hbig; omega)
            simp (maxSteps := 9999999) (disch := first | omega | (simp only [hN] <;> omega) | fail) only [go_sem, simprocAttr, k1]
            have : ((m : Int) + 1) = ((min nd.count (m + 1) : Nat) : Int) := by omega
            rw [this]
            exact hQ _ ⟨by (first | omega | (simp only [AHeap.alloc_n, AHeap.upd_n]; omega)), fun b hb hne => by (try simp only [AHeap.alloc_n, AHeap.upd_n] at hb hne); simp (maxSteps := 9999999) (disch := first | omega | (simp only [hN] <;> omega) | fail) only [go_sem, simprocAttr, hf2.old]⟩
          · have hcm : c0 ≤ m := (by have := of_decide_eq_false hbig; omega)
            have e1 : ((m : Int) - (c0 : Int)) = ((m - c0 : Nat) : Int) := by omega
            simp (maxSteps := 9999999) (disch := first | omega | (simp only [hN] <;> omega) | fail) only [go_sem, simprocAttr, k1, k5, hk'.flat.1, hk'.flat.2, e1]
            refine ih (by omega) (by omega) (hk'.keep (Nat.le_refl _) (by simp (maxSteps := 9999999) (disch := first | omega | (simp only [hN] <;> omega) | fail) only [go_sem, simprocAttr]; omega) fun b' hb1 hb2 => ?_) ?_
            · simp (maxSteps := 9999999) (disch := first | omega | (simp only [hN] <;> omega) | fail) only [go_sem, simprocAttr, hf2.old]
            · intro h3 hf3
              have hn3 := hf3.n; try simp only [AHeap.alloc_n, AHeap.upd_n] at hn3
              have e2 : ((c0 : Int) + ((min nd1.count (m - c0 + 1) : Nat) : Int)) = ((min (1 + cntL (ks.take (i + 1))) (m + 1) : Nat) : Int) := by omega
              simp (maxSteps := 9999999) (disch := first | omega | (simp only [hN] <;> omega) | fail) only [go_sem, simprocAttr, k1, k5, k9, k10, k11]
              rw [e2]
              exact ⟨_, hn ▸ Nat.sub_lt_sub_left hil (Nat.lt_succ_self i), i + 1, rfl, hil, ⟨by (first | omega | (simp only [AHeap.alloc_n, AHeap.upd_n]; omega)), fun b hb hne => by (try simp only [AHeap.alloc_n, AHeap.upd_n] at hb hne); simp (maxSteps := 9999999) (disch := first | omega | (simp only [hN] <;> omega) | fail) only [go_sem, simprocAttr, hf3.old, hf2.old]⟩, rfl, rfl⟩
      · have hil : i = ks.length := by have := of_decide_eq_false hlt; omega
        subst hil
        rw [List.take_length] at k5
        simp (maxSteps := 9999999) (disch := first | omega | (simp only [hN] <;> omega) | fail) only [go_sem, simprocAttr, k5]
        rw [← hcnt]
        exact hQ _ hf2
    · have e0 : min (1 + cntL (ks.take 0)) (m + 1) = 1 := by simp [cntL]
      refine ⟨0, rfl, Nat.zero_le _, ⟨by (first | omega | (simp only [AHeap.alloc_n, AHeap.upd_n]; omega)), fun b hb hne => by (try simp only [AHeap.alloc_n, AHeap.upd_n] at hb hne); simp (maxSteps := 9999999) (disch := first | omega | (simp only [hN] <;> omega) | fail) only [go_sem, simprocAttr]⟩, ?_⟩
      rw [e0]
      (first | (simp (maxSteps := 9999999) (disch := first | omega | (simp only [hN] <;> omega) | fail) only [go_sem, simprocAttr]; done) | (simp (maxSteps := 9999999) (disch := first | omega | (simp only [hN] <;> omega) | fail) only [go_sem, simprocAttr]; rfl))
theorem deep_spec : ∀ (s : Nat) {nd : Nd}, nd.count ≤ s → ∀ {m lo : Nat} {h : AHeap} {kv : AV} {Q : QR}, m < 2 ^ 62 → KidsR lo h nd.kids kv → (∀ h', Fr h.n h h' → Q (.ret (.int .i64 ((min nd.depth (m + 1) : Nat) : Int))) h') → WF F 26 [.agg (ndC nd kv), .int .i64 (m : Int)] h Q := by
  intro s
  induction s with
  | zero => intro nd h0; cases nd; simp [Nd.count] at h0
  | succ s ih =>
    intro nd hs m lo h kv Q hm hk hQ
    have hcnt : nd.count = 1 + cntL nd.kids := by cases nd; rfl
    have hdpt : nd.depth = 1 + dptL nd.kids := by cases nd; rfl
    have hsm := hk.small
    generalize nd.kids = ks at hk hcnt hsm hdpt
    refine WF.code F26 rfl ?_
    simp (maxSteps := 9999999) (disch := first | omega | (simp only [hN] <;> omega) | fail) only [go_sem, simprocAttr, hk.flat.1, hk.flat.2, hk.len]
    (first | refine condP_splitN (fun hz => ?_) (fun hz => ?_) | refine wantP_splitN (fun hz => ?_) (fun hz => ?_) | refine wantPD_splitN (fun hz => ?_) (fun hz => ?_) | refine condP_split (fun hz => ?_) (fun hz => ?_) | refine wantP_split (fun hz => ?_) (fun hz => ?_) | refine wantPD_split (fun hz => ?_) (fun hz => ?_))
    · have : (m : Int) < 1 := of_decide_eq_true hz
      simp (maxSteps := 9999999) (disch := first | omega | (simp only [hN] <;> omega) | fail) only [go_sem, simprocAttr]
      have : (1 : Int) = ((min nd.depth (m + 1) : Nat) : Int) := by omega
      rw [this]
      exact hQ _ ⟨by (first | omega | (simp only [AHeap.alloc_n, AHeap.upd_n]; omega)), fun b hb hne => by (try simp only [AHeap.alloc_n, AHeap.upd_n] at hb hne); simp (maxSteps := 9999999) (disch := first | omega | (simp only [hN] <;> omega) | fail) only [go_sem, simprocAttr]⟩
    have hm1 : 1 ≤ m := (by have := of_decide_eq_false hz; omega)
    simp (maxSteps := 9999999) (disch := first | omega | (simp only [hN] <;> omega) | fail) only [go_sem, simprocAttr, hk.flat.1, hk.flat.2, hk.len]
    refine wp_loop (fun n a h' => ∃ i : Nat, n = ks.length - i ∧ i ≤ ks.length ∧ Fr h.n h h' ∧ a.tm.get 1 = some (.int .i64 (m : Int)) ∧ a.tm.get 5 = some (.int .i64 ((min (dptL (ks.take i)) m : Nat) : Int)) ∧ a.tm.get 12 = some kv ∧ a.tm.get 13 = some (.int .i64 (ks.length : Int)) ∧ a.tm.get 14 = some (.int .i64 (i : Int)) ∧ a.df = []) ?_ ks.length ?_
    · rintro n ⟨t, df⟩ h2 ⟨i, hn, hi, hf2, k1, k5, k9, k10, k11, hdf⟩
      simp only at k1 k5 k9 k10 k11 hdf
      subst hdf
      have hn2 := hf2.n; try simp only [AHeap.alloc_n, AHeap.upd_n] at hn2
      simp (maxSteps := 9999999) (disch := first | omega | (simp only [hN] <;> omega) | fail) only [go_sem, simprocAttr, k10, k11]
      (first | refine condP_splitN (fun hlt => ?_) (fun hlt => ?_) | refine wantP_splitN (fun hlt => ?_) (fun hlt => ?_) | refine wantPD_splitN (fun hlt => ?_) (fun hlt => ?_) | refine condP_split (fun hlt => ?_) (fun hlt => ?_) | refine wantP_split (fun hlt => ?_) (fun hlt => ?_) | refine wantPD_split (fun hlt => ?_) (fun hlt => ?_))
      · have hil : i < ks.length := (by have := of_decide_eq_true hlt; omega)
        have hstep := cntL_take hil
        have hle := cntL_le (ns := ks) (i + 1)
        have hdst := dptL_take hil
        cases hk with
        | nil => simp at hil
        | emp => simp at hil
        | row g1 g0 g2 g3 g4 gr g5 =>
          rename_i b ver o c md ex bs css
          obtain ⟨kv', hr, hk'⟩ := g5.get hil
          rw [← row_sub (o := o) gr (by omega)] at hr
          have g4' : h2.get b = some ⟨ver, .cells md 9 bs⟩ := by rw [hf2.all g3]; exact g4
          generalize ks[i] = nd1 at hr hk' hstep hdst
          have e1 : ((m : Int) - 1) = ((m - 1 : Nat) : Int) := by omega
          simp (maxSteps := 9999999) (disch := first | omega | (simp only [hN] <;> omega) | fail) only [go_sem, simprocAttr, k1, k5, k9, k10, k11, Int.toNat_natCast, g4', hr, hk'.flat.1, hk'.flat.2, e1]
          refine ih (by omega) (by omega) (hk'.keep (Nat.le_refl _) (by simp (maxSteps := 9999999) (disch := first | omega | (simp only [hN] <;> omega) | fail) only [go_sem, simprocAttr]; omega) fun b' hb1 hb2 => ?_) ?_
          · simp (maxSteps := 9999999) (disch := first | omega | (simp only [hN] <;> omega) | fail) only [go_sem, simprocAttr, hf2.old]
          · intro h3 hf3
            have hn3 := hf3.n; try simp only [AHeap.alloc_n, AHeap.upd_n] at hn3
            have e3 : m - 1 + 1 = m := by omega
            rw [e3]
            generalize hd : min (dptL (ks.take i)) m = d0 at k5
            generalize hx : min nd1.depth m = x0
            simp (maxSteps := 9999999) (disch := first | omega | (simp only [hN] <;> omega) | fail) only [go_sem, simprocAttr, k1, k5, k9, k10, k11]
            (first | refine condP_splitN (fun hg => ?_) (fun hg => ?_) | refine wantP_splitN (fun hg => ?_) (fun hg => ?_) | refine wantPD_splitN (fun hg => ?_) (fun hg => ?_) | refine condP_split (fun hg => ?_) (fun hg => ?_) | refine wantP_split (fun hg => ?_) (fun hg => ?_) | refine wantPD_split (fun hg => ?_) (fun hg => ?_))
            · have : d0 < x0 := (by have := of_decide_eq_true hg; omega)
              have e2 : x0 = min (dptL (ks.take (i + 1))) m := by omega
              simp (maxSteps := 9999999) (disch := first | omega | (simp only [hN] <;> omega) | fail) only [go_sem, simprocAttr, k1, k5, k9, k10, k11]
              exact ⟨_, hn ▸ Nat.sub_lt_sub_left hil (Nat.lt_succ_self i), i + 1, rfl, hil, ⟨by (first | omega | (simp only [AHeap.alloc_n, AHeap.upd_n]; omega)), fun b hb hne => by (try simp only [AHeap.alloc_n, AHeap.upd_n] at hb hne); simp (maxSteps := 9999999) (disch := first | omega | (simp only [hN] <;> omega) | fail) only [go_sem, simprocAttr, hf3.old, hf2.old]⟩, by rw [e2], rfl⟩
            · have : x0 ≤ d0 := (by have := of_decide_eq_false hg; omega)
              have e2 : d0 = min (dptL (ks.take (i + 1))) m := by omega
              simp (maxSteps := 9999999) (disch := first | omega | (simp only [hN] <;> omega) | fail) only [go_sem, simprocAttr, k1, k5, k9, k10, k11]
              exact ⟨_, hn ▸ Nat.sub_lt_sub_left hil (Nat.lt_succ_self i), i + 1, rfl, hil, ⟨by (first | omega | (simp only [AHeap.alloc_n, AHeap.upd_n]; omega)), fun b hb hne => by (try simp only [AHeap.alloc_n, AHeap.upd_n] at hb hne); simp (maxSteps := 9999999) (disch := first | omega | (simp only [hN] <;> omega) | fail) only [go_sem, simprocAttr, hf3.old, hf2.old]⟩, by rw [e2], rfl⟩
      · have hil : i = ks.length := by have := of_decide_eq_false hlt; omega
        subst hil
        rw [List.take_length] at k5
        generalize hd : min (dptL ks) m = d0 at k5
        simp (maxSteps := 9999999) (disch := first | omega | (simp only [hN] <;> omega) | fail) only [go_sem, simprocAttr, k5]
        have : ((d0 : Int) + 1) = ((min nd.depth (m + 1) : Nat) : Int) := by omega
        rw [this]
        exact hQ _ hf2
    · have e0 : min (dptL (ks.take 0)) m = 0 := by simp [dptL]
      refine ⟨0, rfl, Nat.zero_le _, ⟨by (first | omega | (simp only [AHeap.alloc_n, AHeap.upd_n]; omega)), fun b hb hne => by (try simp only [AHeap.alloc_n, AHeap.upd_n] at hb hne); simp (maxSteps := 9999999) (disch := first | omega | (simp only [hN] <;> omega) | fail) only [go_sem, simprocAttr]⟩, ?_⟩
      rw [e0]
      (first | (simp (maxSteps := 9999999) (disch := first | omega | (simp only [hN] <;> omega) | fail) only [go_sem, simprocAttr]; done) | (simp (maxSteps := 9999999) (disch := first | omega | (simp only [hN] <;> omega) | fail) only [go_sem, simprocAttr]; rfl))
end Go.Ev
