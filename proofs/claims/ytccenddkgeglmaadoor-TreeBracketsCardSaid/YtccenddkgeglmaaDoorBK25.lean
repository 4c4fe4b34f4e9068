/- The tree's reader: expressions. -/
import Derived.Test.YtccenddkgeglmaaDoorBK24
set_option linter.all false
set_option linter.unusedVariables false
set_option linter.unusedSimpArgs false
namespace Go.Ev
open Go
set_option maxRecDepth 100000
set_option maxHeartbeats 4000000

theorem prod_tok {E : Nat} {u : PT} (hu : PSpec 119 E u) : PSpec 113 E (rowP true [[42], [47], [37]] u) := by
  intro h r lv ts Q hp hz hQ
  refine WF.code F113 rfl ?_
  have hlt := hp.hi
  simp (maxSteps := 9999999) (disch := first | omega | (simp only [hN] <;> omega) | fail) only [go_sem, simprocAttr, List.map]
  refine row_tok (ops := [[42], [47], [37]]) (ver := 0) hu (hp.fr (h' := (h.alloc (.cells .own 0 [.int .i64 0, .int .i64 0, .str [], .int .i64 0, .int .i64 0, .int .i64 0, .int .i64 0, .int .u64 0, .nilSlice])).alloc (.cells .own 1 (List.map .str [[42], [47], [37]]))) ⟨by (first | omega | (simp only [AHeap.alloc_n, AHeap.upd_n]; omega)), fun b hb hne => by (try simp only [AHeap.alloc_n, AHeap.upd_n] at hb hne); simp (maxSteps := 9999999) (disch := first | omega | (simp only [hN] <;> omega) | fail) only [go_sem, simprocAttr]⟩) (by (first | (simp (maxSteps := 9999999) (disch := first | omega | (simp only [hN] <;> omega) | fail) only [go_sem, simprocAttr, List.map]; done) | (simp (maxSteps := 9999999) (disch := first | omega | (simp only [hN] <;> omega) | fail) only [go_sem, simprocAttr, List.map]; rfl))) (by simp (maxSteps := 9999999) (disch := first | omega | (simp only [hN] <;> omega) | fail) only [go_sem, simprocAttr]; omega) (by omega) (show 3 < 2 ^ 62 by decide) hz ?_
  cases hy : rowP true [[42], [47], [37]] u lv ts with
  | error e =>
    obtain ⟨e, p⟩ := e
    rw [hy] at hQ
    intro h2 hf2
    have hn2 := hf2.n; try simp only [AHeap.alloc_n, AHeap.upd_n] at hn2
    simp (maxSteps := 9999999) (disch := first | omega | (simp only [hN] <;> omega) | fail) only [go_sem, simprocAttr]
    exact hQ _ ⟨by (first | omega | (simp only [AHeap.alloc_n, AHeap.upd_n]; omega)), fun b hb hne => by (try simp only [AHeap.alloc_n, AHeap.upd_n] at hb hne); simp (maxSteps := 9999999) (disch := first | omega | (simp only [hN] <;> omega) | fail) only [go_sem, simprocAttr, hf2.old]⟩
  | ok y =>
    obtain ⟨k, ts2⟩ := y
    rw [hy] at hQ
    intro h2 kv hf2 hp2 hk2
    have hn2 := hf2.n; try simp only [AHeap.alloc_n, AHeap.upd_n] at hn2
    have q3 : h2.get h.n = some ⟨0, .cells .own 0 [.int .i64 0, .int .i64 0, .str [], .int .i64 0, .int .i64 0, .int .i64 0, .int .i64 0, .int .u64 0, .nilSlice]⟩ := by simp (maxSteps := 9999999) (disch := first | omega | (simp only [hN] <;> omega) | fail) only [go_sem, simprocAttr, hf2.old]
    simp (maxSteps := 9999999) (disch := first | omega | (simp only [hN] <;> omega) | fail) only [go_sem, simprocAttr, q3, hk2.flat.1, hk2.flat.2]
    exact hQ _ kv ⟨by (first | omega | (simp only [AHeap.alloc_n, AHeap.upd_n]; omega)), fun b hb hne => by (try simp only [AHeap.alloc_n, AHeap.upd_n] at hb hne); simp (maxSteps := 9999999) (disch := first | omega | (simp only [hN] <;> omega) | fail) only [go_sem, simprocAttr, hf2.old]⟩ (hp2.fr' (q := h.n) (Fr.upd _ _ _) hlt) (hk2.keep (by simp (maxSteps := 9999999) (disch := first | omega | (simp only [hN] <;> omega) | fail) only [go_sem, simprocAttr]; omega) (by simp (maxSteps := 9999999) (disch := first | omega | (simp only [hN] <;> omega) | fail) only [go_sem, simprocAttr]; exact Nat.le_refl _) fun b hb1 hb2 => by simp only [AHeap.alloc_n] at hb1; simp (maxSteps := 9999999) (disch := first | omega | (simp only [hN] <;> omega) | fail) only [go_sem, simprocAttr])

theorem sum_tok {E : Nat} {u : PT} (hu : PSpec 113 E u) : PSpec 106 E (rowP true [[43], [45]] u) := by
  intro h r lv ts Q hp hz hQ
  refine WF.code F106 rfl ?_
  have hlt := hp.hi
  simp (maxSteps := 9999999) (disch := first | omega | (simp only [hN] <;> omega) | fail) only [go_sem, simprocAttr, List.map]
  refine row_tok (ops := [[43], [45]]) (ver := 0) hu (hp.fr (h' := (h.alloc (.cells .own 0 [.int .i64 0, .int .i64 0, .str [], .int .i64 0, .int .i64 0, .int .i64 0, .int .i64 0, .int .u64 0, .nilSlice])).alloc (.cells .own 1 (List.map .str [[43], [45]]))) ⟨by (first | omega | (simp only [AHeap.alloc_n, AHeap.upd_n]; omega)), fun b hb hne => by (try simp only [AHeap.alloc_n, AHeap.upd_n] at hb hne); simp (maxSteps := 9999999) (disch := first | omega | (simp only [hN] <;> omega) | fail) only [go_sem, simprocAttr]⟩) (by (first | (simp (maxSteps := 9999999) (disch := first | omega | (simp only [hN] <;> omega) | fail) only [go_sem, simprocAttr, List.map]; done) | (simp (maxSteps := 9999999) (disch := first | omega | (simp only [hN] <;> omega) | fail) only [go_sem, simprocAttr, List.map]; rfl))) (by simp (maxSteps := 9999999) (disch := first | omega | (simp only [hN] <;> omega) | fail) only [go_sem, simprocAttr]; omega) (by omega) (show 2 < 2 ^ 62 by decide) hz ?_
  cases hy : rowP true [[43], [45]] u lv ts with
  | error e =>
    obtain ⟨e, p⟩ := e
    rw [hy] at hQ
    intro h2 hf2
    have hn2 := hf2.n; try simp only [AHeap.alloc_n, AHeap.upd_n] at hn2
    simp (maxSteps := 9999999) (disch := first | omega | (simp only [hN] <;> omega) | fail) only [go_sem, simprocAttr]
    exact hQ _ ⟨by (first | omega | (simp only [AHeap.alloc_n, AHeap.upd_n]; omega)), fun b hb hne => by (try simp only [AHeap.alloc_n, AHeap.upd_n] at hb hne); simp (maxSteps := 9999999) (disch := first | omega | (simp only [hN] <;> omega) | fail) only [go_sem, simprocAttr, hf2.old]⟩
  | ok y =>
    obtain ⟨k, ts2⟩ := y
    rw [hy] at hQ
    intro h2 kv hf2 hp2 hk2
    have hn2 := hf2.n; try simp only [AHeap.alloc_n, AHeap.upd_n] at hn2
    have q3 : h2.get h.n = some ⟨0, .cells .own 0 [.int .i64 0, .int .i64 0, .str [], .int .i64 0, .int .i64 0, .int .i64 0, .int .i64 0, .int .u64 0, .nilSlice]⟩ := by simp (maxSteps := 9999999) (disch := first | omega | (simp only [hN] <;> omega) | fail) only [go_sem, simprocAttr, hf2.old]
    simp (maxSteps := 9999999) (disch := first | omega | (simp only [hN] <;> omega) | fail) only [go_sem, simprocAttr, q3, hk2.flat.1, hk2.flat.2]
    exact hQ _ kv ⟨by (first | omega | (simp only [AHeap.alloc_n, AHeap.upd_n]; omega)), fun b hb hne => by (try simp only [AHeap.alloc_n, AHeap.upd_n] at hb hne); simp (maxSteps := 9999999) (disch := first | omega | (simp only [hN] <;> omega) | fail) only [go_sem, simprocAttr, hf2.old]⟩ (hp2.fr' (q := h.n) (Fr.upd _ _ _) hlt) (hk2.keep (by simp (maxSteps := 9999999) (disch := first | omega | (simp only [hN] <;> omega) | fail) only [go_sem, simprocAttr]; omega) (by simp (maxSteps := 9999999) (disch := first | omega | (simp only [hN] <;> omega) | fail) only [go_sem, simprocAttr]; exact Nat.le_refl _) fun b hb1 hb2 => by simp only [AHeap.alloc_n] at hb1; simp (maxSteps := 9999999) (disch := first | omega | (simp only [hN] <;> omega) | fail) only [go_sem, simprocAttr])

theorem cmp_tok {E : Nat} {u : PT} (hu : PSpec 106 E u) : PSpec 90 E (rowP false [[61, 61], [33, 61], [60], [60, 61], [62], [62, 61]] u) := by
  intro h r lv ts Q hp hz hQ
  refine WF.code F90 rfl ?_
  have hlt := hp.hi
  simp (maxSteps := 9999999) (disch := first | omega | (simp only [hN] <;> omega) | fail) only [go_sem, simprocAttr, List.map]
  refine row_tok (ops := [[61, 61], [33, 61], [60], [60, 61], [62], [62, 61]]) (ver := 0) hu (hp.fr (h' := (h.alloc (.cells .own 0 [.int .i64 0, .int .i64 0, .str [], .int .i64 0, .int .i64 0, .int .i64 0, .int .i64 0, .int .u64 0, .nilSlice])).alloc (.cells .own 1 (List.map .str [[61, 61], [33, 61], [60], [60, 61], [62], [62, 61]]))) ⟨by (first | omega | (simp only [AHeap.alloc_n, AHeap.upd_n]; omega)), fun b hb hne => by (try simp only [AHeap.alloc_n, AHeap.upd_n] at hb hne); simp (maxSteps := 9999999) (disch := first | omega | (simp only [hN] <;> omega) | fail) only [go_sem, simprocAttr]⟩) (by (first | (simp (maxSteps := 9999999) (disch := first | omega | (simp only [hN] <;> omega) | fail) only [go_sem, simprocAttr, List.map]; done) | (simp (maxSteps := 9999999) (disch := first | omega | (simp only [hN] <;> omega) | fail) only [go_sem, simprocAttr, List.map]; rfl))) (by simp (maxSteps := 9999999) (disch := first | omega | (simp only [hN] <;> omega) | fail) only [go_sem, simprocAttr]; omega) (by omega) (show 6 < 2 ^ 62 by decide) hz ?_
  cases hy : rowP false [[61, 61], [33, 61], [60], [60, 61], [62], [62, 61]] u lv ts with
  | error e =>
    obtain ⟨e, p⟩ := e
    rw [hy] at hQ
    intro h2 hf2
    have hn2 := hf2.n; try simp only [AHeap.alloc_n, AHeap.upd_n] at hn2
    simp (maxSteps := 9999999) (disch := first | omega | (simp only [hN] <;> omega) | fail) only [go_sem, simprocAttr]
    exact hQ _ ⟨by (first | omega | (simp only [AHeap.alloc_n, AHeap.upd_n]; omega)), fun b hb hne => by (try simp only [AHeap.alloc_n, AHeap.upd_n] at hb hne); simp (maxSteps := 9999999) (disch := first | omega | (simp only [hN] <;> omega) | fail) only [go_sem, simprocAttr, hf2.old]⟩
  | ok y =>
    obtain ⟨k, ts2⟩ := y
    rw [hy] at hQ
    intro h2 kv hf2 hp2 hk2
    have hn2 := hf2.n; try simp only [AHeap.alloc_n, AHeap.upd_n] at hn2
    have q3 : h2.get h.n = some ⟨0, .cells .own 0 [.int .i64 0, .int .i64 0, .str [], .int .i64 0, .int .i64 0, .int .i64 0, .int .i64 0, .int .u64 0, .nilSlice]⟩ := by simp (maxSteps := 9999999) (disch := first | omega | (simp only [hN] <;> omega) | fail) only [go_sem, simprocAttr, hf2.old]
    simp (maxSteps := 9999999) (disch := first | omega | (simp only [hN] <;> omega) | fail) only [go_sem, simprocAttr, q3, hk2.flat.1, hk2.flat.2]
    exact hQ _ kv ⟨by (first | omega | (simp only [AHeap.alloc_n, AHeap.upd_n]; omega)), fun b hb hne => by (try simp only [AHeap.alloc_n, AHeap.upd_n] at hb hne); simp (maxSteps := 9999999) (disch := first | omega | (simp only [hN] <;> omega) | fail) only [go_sem, simprocAttr, hf2.old]⟩ (hp2.fr' (q := h.n) (Fr.upd _ _ _) hlt) (hk2.keep (by simp (maxSteps := 9999999) (disch := first | omega | (simp only [hN] <;> omega) | fail) only [go_sem, simprocAttr]; omega) (by simp (maxSteps := 9999999) (disch := first | omega | (simp only [hN] <;> omega) | fail) only [go_sem, simprocAttr]; exact Nat.le_refl _) fun b hb1 hb2 => by simp only [AHeap.alloc_n] at hb1; simp (maxSteps := 9999999) (disch := first | omega | (simp only [hN] <;> omega) | fail) only [go_sem, simprocAttr])

theorem and_tok {E : Nat} {u : PT} (hu : PSpec 90 E u) : PSpec 66 E (rowP true [[38, 38]] u) := by
  intro h r lv ts Q hp hz hQ
  refine WF.code F66 rfl ?_
  have hlt := hp.hi
  simp (maxSteps := 9999999) (disch := first | omega | (simp only [hN] <;> omega) | fail) only [go_sem, simprocAttr, List.map]
  refine row_tok (ops := [[38, 38]]) (ver := 0) hu (hp.fr (h' := (h.alloc (.cells .own 0 [.int .i64 0, .int .i64 0, .str [], .int .i64 0, .int .i64 0, .int .i64 0, .int .i64 0, .int .u64 0, .nilSlice])).alloc (.cells .own 1 (List.map .str [[38, 38]]))) ⟨by (first | omega | (simp only [AHeap.alloc_n, AHeap.upd_n]; omega)), fun b hb hne => by (try simp only [AHeap.alloc_n, AHeap.upd_n] at hb hne); simp (maxSteps := 9999999) (disch := first | omega | (simp only [hN] <;> omega) | fail) only [go_sem, simprocAttr]⟩) (by (first | (simp (maxSteps := 9999999) (disch := first | omega | (simp only [hN] <;> omega) | fail) only [go_sem, simprocAttr, List.map]; done) | (simp (maxSteps := 9999999) (disch := first | omega | (simp only [hN] <;> omega) | fail) only [go_sem, simprocAttr, List.map]; rfl))) (by simp (maxSteps := 9999999) (disch := first | omega | (simp only [hN] <;> omega) | fail) only [go_sem, simprocAttr]; omega) (by omega) (show 1 < 2 ^ 62 by decide) hz ?_
  cases hy : rowP true [[38, 38]] u lv ts with
  | error e =>
    obtain ⟨e, p⟩ := e
    rw [hy] at hQ
    intro h2 hf2
    have hn2 := hf2.n; try simp only [AHeap.alloc_n, AHeap.upd_n] at hn2
    simp (maxSteps := 9999999) (disch := first | omega | (simp only [hN] <;> omega) | fail) only [go_sem, simprocAttr]
    exact hQ _ ⟨by (first | omega | (simp only [AHeap.alloc_n, AHeap.upd_n]; omega)), fun b hb hne => by (try simp only [AHeap.alloc_n, AHeap.upd_n] at hb hne); simp (maxSteps := 9999999) (disch := first | omega | (simp only [hN] <;> omega) | fail) only [go_sem, simprocAttr, hf2.old]⟩
  | ok y =>
    obtain ⟨k, ts2⟩ := y
    rw [hy] at hQ
    intro h2 kv hf2 hp2 hk2
    have hn2 := hf2.n; try simp only [AHeap.alloc_n, AHeap.upd_n] at hn2
    have q3 : h2.get h.n = some ⟨0, .cells .own 0 [.int .i64 0, .int .i64 0, .str [], .int .i64 0, .int .i64 0, .int .i64 0, .int .i64 0, .int .u64 0, .nilSlice]⟩ := by simp (maxSteps := 9999999) (disch := first | omega | (simp only [hN] <;> omega) | fail) only [go_sem, simprocAttr, hf2.old]
    simp (maxSteps := 9999999) (disch := first | omega | (simp only [hN] <;> omega) | fail) only [go_sem, simprocAttr, q3, hk2.flat.1, hk2.flat.2]
    exact hQ _ kv ⟨by (first | omega | (simp only [AHeap.alloc_n, AHeap.upd_n]; omega)), fun b hb hne => by (try simp only [AHeap.alloc_n, AHeap.upd_n] at hb hne); simp (maxSteps := 9999999) (disch := first | omega | (simp only [hN] <;> omega) | fail) only [go_sem, simprocAttr, hf2.old]⟩ (hp2.fr' (q := h.n) (Fr.upd _ _ _) hlt) (hk2.keep (by simp (maxSteps := 9999999) (disch := first | omega | (simp only [hN] <;> omega) | fail) only [go_sem, simprocAttr]; omega) (by simp (maxSteps := 9999999) (disch := first | omega | (simp only [hN] <;> omega) | fail) only [go_sem, simprocAttr]; exact Nat.le_refl _) fun b hb1 hb2 => by simp only [AHeap.alloc_n] at hb1; simp (maxSteps := 9999999) (disch := first | omega | (simp only [hN] <;> omega) | fail) only [go_sem, simprocAttr])

theorem expr_tok {E : Nat} {u : PT} (hu : PSpec 66 E u) : PSpec 38 E (rowP true [[124, 124]] u) := by
  intro h r lv ts Q hp hz hQ
  refine WF.code F38 rfl ?_
  have hlt := hp.hi
  simp (maxSteps := 9999999) (disch := first | omega | (simp only [hN] <;> omega) | fail) only [go_sem, simprocAttr, List.map]
  refine row_tok (ops := [[124, 124]]) (ver := 0) hu (hp.fr (h' := (h.alloc (.cells .own 0 [.int .i64 0, .int .i64 0, .str [], .int .i64 0, .int .i64 0, .int .i64 0, .int .i64 0, .int .u64 0, .nilSlice])).alloc (.cells .own 1 (List.map .str [[124, 124]]))) ⟨by (first | omega | (simp only [AHeap.alloc_n, AHeap.upd_n]; omega)), fun b hb hne => by (try simp only [AHeap.alloc_n, AHeap.upd_n] at hb hne); simp (maxSteps := 9999999) (disch := first | omega | (simp only [hN] <;> omega) | fail) only [go_sem, simprocAttr]⟩) (by (first | (simp (maxSteps := 9999999) (disch := first | omega | (simp only [hN] <;> omega) | fail) only [go_sem, simprocAttr, List.map]; done) | (simp (maxSteps := 9999999) (disch := first | omega | (simp only [hN] <;> omega) | fail) only [go_sem, simprocAttr, List.map]; rfl))) (by simp (maxSteps := 9999999) (disch := first | omega | (simp only [hN] <;> omega) | fail) only [go_sem, simprocAttr]; omega) (by omega) (show 1 < 2 ^ 62 by decide) hz ?_
  cases hy : rowP true [[124, 124]] u lv ts with
  | error e =>
    obtain ⟨e, p⟩ := e
    rw [hy] at hQ
    intro h2 hf2
    have hn2 := hf2.n; try simp only [AHeap.alloc_n, AHeap.upd_n] at hn2
    simp (maxSteps := 9999999) (disch := first | omega | (simp only [hN] <;> omega) | fail) only [go_sem, simprocAttr]
    exact hQ _ ⟨by (first | omega | (simp only [AHeap.alloc_n, AHeap.upd_n]; omega)), fun b hb hne => by (try simp only [AHeap.alloc_n, AHeap.upd_n] at hb hne); simp (maxSteps := 9999999) (disch := first | omega | (simp only [hN] <;> omega) | fail) only [go_sem, simprocAttr, hf2.old]⟩
  | ok y =>
    obtain ⟨k, ts2⟩ := y
    rw [hy] at hQ
    intro h2 kv hf2 hp2 hk2
    have hn2 := hf2.n; try simp only [AHeap.alloc_n, AHeap.upd_n] at hn2
    have q3 : h2.get h.n = some ⟨0, .cells .own 0 [.int .i64 0, .int .i64 0, .str [], .int .i64 0, .int .i64 0, .int .i64 0, .int .i64 0, .int .u64 0, .nilSlice]⟩ := by simp (maxSteps := 9999999) (disch := first | omega | (simp only [hN] <;> omega) | fail) only [go_sem, simprocAttr, hf2.old]
    simp (maxSteps := 9999999) (disch := first | omega | (simp only [hN] <;> omega) | fail) only [go_sem, simprocAttr, q3, hk2.flat.1, hk2.flat.2]
    exact hQ _ kv ⟨by (first | omega | (simp only [AHeap.alloc_n, AHeap.upd_n]; omega)), fun b hb hne => by (try simp only [AHeap.alloc_n, AHeap.upd_n] at hb hne); simp (maxSteps := 9999999) (disch := first | omega | (simp only [hN] <;> omega) | fail) only [go_sem, simprocAttr, hf2.old]⟩ (hp2.fr' (q := h.n) (Fr.upd _ _ _) hlt) (hk2.keep (by simp (maxSteps := 9999999) (disch := first | omega | (simp only [hN] <;> omega) | fail) only [go_sem, simprocAttr]; omega) (by simp (maxSteps := 9999999) (disch := first | omega | (simp only [hN] <;> omega) | fail) only [go_sem, simprocAttr]; exact Nat.le_refl _) fun b hb1 hb2 => by simp only [AHeap.alloc_n] at hb1; simp (maxSteps := 9999999) (disch := first | omega | (simp only [hN] <;> omega) | fail) only [go_sem, simprocAttr])

theorem exprOf_tok {E : Nat} {u : PT} (hu : PSpec 119 E u) : PSpec 38 E (exprOf u) := expr_tok (and_tok (cmp_tok (sum_tok (prod_tok hu))))

theorem unary_tok {E : Nat} (f : Nat) : PSpec 119 E (unP E f) := by
  induction f with
  | zero => intro h r lv ts Q hp hz hQ; exact absurd rfl hz
  | succ f unary_ih =>
    intro h r lv ts Q hp hz hQ
    refine WF.code F119 rfl ?_
    have hlt := hp.hi
    simp (maxSteps := 9999999) (disch := first | omega | (simp only [hN] <;> omega) | fail) only [go_sem, simprocAttr]
    rw [unP] at hz hQ
    refine is_tok (ws := [[45], [33]]) (md := .own) (ver := 0) (E := E) (ts := ts) (lv := lv) (hp.fr ⟨by (first | omega | (simp only [AHeap.alloc_n, AHeap.upd_n]; omega)), fun b hb hne => by (try simp only [AHeap.alloc_n, AHeap.upd_n] at hb hne); simp (maxSteps := 9999999) (disch := first | omega | (simp only [hN] <;> omega) | fail) only [go_sem, simprocAttr]⟩) (by (first | (simp (maxSteps := 9999999) (disch := first | omega | (simp only [hN] <;> omega) | fail) only [go_sem, simprocAttr, List.map]; done) | (simp (maxSteps := 9999999) (disch := first | omega | (simp only [hN] <;> omega) | fail) only [go_sem, simprocAttr, List.map]; rfl))) (by simp (maxSteps := 9999999) (disch := first | omega | (simp only [hN] <;> omega) | fail) only [go_sem, simprocAttr]; omega) (show 2 < 2 ^ 62 by decide) ?_
    intro h1 hf1
    have hn1 := hf1.n; try simp only [AHeap.alloc_n, AHeap.upd_n] at hn1
    have hf : ∀ b', b' < h.n → h1.get b' = h.get b' := fun b' hb' => by simp (maxSteps := 9999999) (disch := first | omega | (simp only [hN] <;> omega) | fail) only [go_sem, simprocAttr, hf1.old]
    have q0 : h1.get h.n = some ⟨0, .cells .own 0 [.int .i64 0, .int .i64 0, .str [], .int .i64 0, .int .i64 0, .int .i64 0, .int .i64 0, .int .u64 0, .nilSlice]⟩ := by simp (maxSteps := 9999999) (disch := first | omega | (simp only [hN] <;> omega) | fail) only [go_sem, simprocAttr, hf1.old]
    have hp1 : PInv h1 r E ts lv := hp.fr ⟨by (first | omega | (simp only [AHeap.alloc_n, AHeap.upd_n]; omega)), fun b hb hne => by (try simp only [AHeap.alloc_n, AHeap.upd_n] at hb hne); simp (maxSteps := 9999999) (disch := first | omega | (simp only [hN] <;> omega) | fail) only [go_sem, simprocAttr, hf]⟩
    clear hf1
    by_cases hi : isT [[45], [33]] ts = true
    · rw [if_pos hi] at hz hQ
      simp (maxSteps := 9999999) (disch := first | omega | (simp only [hN] <;> omega) | fail) only [go_sem, simprocAttr, hi]
      refine here_tok (E := E) (lv := lv) (ts := ts) hp1 ?_
      intro h2 hf2
      have hn2 := hf2.n; try simp only [AHeap.alloc_n, AHeap.upd_n] at hn2
      have hp2 := hp1.fr hf2
      simp (maxSteps := 9999999) (disch := first | omega | (simp only [hN] <;> omega) | fail) only [go_sem, simprocAttr, tokAV]
      refine open_tok hp2 ?_
      have hop : isT [(hdT E ts).text] ts = true := by
        cases ts with
        | nil => exact absurd rfl (isT_ne hi)
        | cons t ts =>
          simp only [isT, Bool.and_eq_true] at hi ⊢
          exact ⟨hi.1, by simp [hdT]⟩
      rw [if_pos hop]
      by_cases h16 : lv = 16
      · rw [if_pos h16] at hQ ⊢
        intro h6 hf6
        have hn6 := hf6.n; try simp only [AHeap.alloc_n, AHeap.upd_n] at hn6
        simp (maxSteps := 9999999) (disch := first | omega | (simp only [hN] <;> omega) | fail) only [go_sem, simprocAttr]
        exact hQ _ ⟨by (first | omega | (simp only [AHeap.alloc_n, AHeap.upd_n]; omega)), fun b hb hne => by (try simp only [AHeap.alloc_n, AHeap.upd_n] at hb hne); simp (maxSteps := 9999999) (disch := first | omega | (simp only [hN] <;> omega) | fail) only [go_sem, simprocAttr, hf6.old, hf2.old, hf]⟩
      · rw [if_neg h16] at hQ hz ⊢
        intro h6 hf6 hp6
        have hn6 := hf6.n; try simp only [AHeap.alloc_n, AHeap.upd_n] at hn6
        have hlt6 := hp6.hi
        have d1 : decide (h6.n = h6.n + 1) = false := decide_eq_false (by omega)
        simp (maxSteps := 9999999) (disch := first | omega | (simp only [hN] <;> omega) | fail) only [go_sem, simprocAttr, tokAV, d1]
        generalize hG : ((h6.alloc (.cells .own 0 [.int .i64 0, .str [], .int .i64 0, .int .u64 0, .int .i64 0])).upd h6.n 1 (.cells .own 0 [.int .i64 ((hdT E ts).kind : Int), .str (hdT E ts).text, .int .i64 ((hdT E ts).n : Int), .int .u64 ((hdT E ts).bits : Int), .int .i64 ((hdT E ts).pos : Int)])).alloc (.cells .own 0 [.int .i64 0, .int .i64 0, .str [], .int .i64 0, .int .i64 0, .int .i64 0, .int .i64 0, .int .u64 0, .nilSlice]) = G
        have hGn : G.n = h6.n + 2 := by rw [← hG]; simp (maxSteps := 9999999) (disch := first | omega | (simp only [hN] <;> omega) | fail) only [go_sem, simprocAttr]
        have hG1 : ∀ b', b' < h6.n → G.get b' = h6.get b' := fun b' hb' => by rw [← hG]; simp (maxSteps := 9999999) (disch := first | omega | (simp only [hN] <;> omega) | fail) only [go_sem, simprocAttr]
        have hGt : G.get h6.n = some ⟨1, .cells .own 0 [.int .i64 ((hdT E ts).kind : Int), .str (hdT E ts).text, .int .i64 ((hdT E ts).n : Int), .int .u64 ((hdT E ts).bits : Int), .int .i64 ((hdT E ts).pos : Int)]⟩ := by rw [← hG]; simp (maxSteps := 9999999) (disch := first | omega | (simp only [hN] <;> omega) | fail) only [go_sem, simprocAttr]
        have hGz : G.get (h6.n + 1) = some ⟨0, .cells .own 0 [.int .i64 0, .int .i64 0, .str [], .int .i64 0, .int .i64 0, .int .i64 0, .int .i64 0, .int .u64 0, .nilSlice]⟩ := by rw [← hG]; simp (maxSteps := 9999999) (disch := first | omega | (simp only [hN] <;> omega) | fail) only [go_sem, simprocAttr]
        have hpG : PInv G r E ts.tail (lv + 1) := hp6.fr ⟨by omega, fun b hb _ => hG1 b hb⟩
        have q6 : h6.get h.n = some ⟨0, .cells .own 0 [.int .i64 0, .int .i64 0, .str [], .int .i64 0, .int .i64 0, .int .i64 0, .int .i64 0, .int .u64 0, .nilSlice]⟩ := by rw [hf6.old _ (by omega) (by omega), hf2.old _ (by omega) (by omega)]; exact q0
        have hf' : ∀ b', b' < h.n → b' ≠ r → G.get b' = h.get b' := fun b' hb' hr' => by rw [hG1 _ (by omega), hf6.old _ (by omega) hr', hf2.old _ (by omega) (by omega)]; exact hf _ hb'
        have hlv := hp6.lvl
        clear hf6 hf2 hf hG hp6 hp2 hp1 hop hi q0
        refine unary_ih hpG ?_ ?_
        · intro e; rw [e] at hz; exact hz rfl
        cases hxx : unP E f (lv + 1) ts.tail with
        | error e =>
          obtain ⟨e, p⟩ := e
          rw [hxx] at hQ
          intro h7 hf7
          have hn7 := hf7.n; try simp only [AHeap.alloc_n, AHeap.upd_n] at hn7
          have q7 : h7.get h6.n = G.get h6.n := hf7.old _ (by omega) (by omega)
          have q8 : h7.get (h6.n + 1) = G.get (h6.n + 1) := hf7.old _ (by omega) (by omega)
          simp (maxSteps := 9999999) (disch := first | omega | (simp only [hN] <;> omega) | fail) only [go_sem, simprocAttr, q7, q8, hGt, hGz]
          exact hQ _ ⟨by (first | omega | (simp only [AHeap.alloc_n, AHeap.upd_n]; omega)), fun b hb hne => by (try simp only [AHeap.alloc_n, AHeap.upd_n] at hb hne); simp (maxSteps := 9999999) (disch := first | omega | (simp only [hN] <;> omega) | fail) only [go_sem, simprocAttr, hf7.old, hf']⟩
        | ok y =>
          obtain ⟨k, ts2⟩ := y
          rw [hxx] at hQ hz
          intro h7 kv hf7 hp7 hk7
          have hn7 := hf7.n; try simp only [AHeap.alloc_n, AHeap.upd_n] at hn7
          have q7 : h7.get h6.n = G.get h6.n := hf7.old _ (by omega) (by omega)
          have q8 : h7.get (h6.n + 1) = G.get (h6.n + 1) := hf7.old _ (by omega) (by omega)
          have q9 : h7.get h.n = h6.get h.n := by rw [hf7.old _ (by omega) (by omega)]; exact hG1 _ (by omega)
          obtain ⟨vr, v, hr, ht⟩ := hp7.st
          have hlt7 := hp7.hi
          have ep : (((lv + 1 : Nat) : Int) - 1) = (lv : Int) := by omega
          have g1 : (h6.n + 1 = r) = False := by simp; omega
          have g2 : (h.n = r) = False := by simp; omega
          rw [q6] at q9
          rw [hGt] at q7
          rw [hGz] at q8
          simp (maxSteps := 9999999) (disch := first | omega | (simp only [hN] <;> omega) | fail) only [go_sem, simprocAttr, q7, q8, q9, hGt, hGz, hk7.flat.1, hk7.flat.2, hr, ep]
          have hpa := (hp7.fr (h' := h7.alloc (.cells .own 9 (ndC k kv))) ⟨by (first | omega | (simp only [AHeap.alloc_n, AHeap.upd_n]; omega)), fun b hb hne => by (try simp only [AHeap.alloc_n, AHeap.upd_n] at hb hne); simp (maxSteps := 9999999) (disch := first | omega | (simp only [hN] <;> omega) | fail) only [go_sem, simprocAttr]⟩).fr' (q := h6.n + 1) (Fr.upd _ 1 (.cells .own 0 [.int .i64 30, .int .i64 ((hdT E ts).pos : Int), .str (hdT E ts).text, .int .i64 0, .int .i64 0, .int .i64 0, .int .i64 0, .int .u64 0, .slice h7.n 0 1 1 true])) (by omega)
          have hpb := hpa.step (lv' := lv) (ver := vr + 1) (v := v) (ts' := ts2) (Fr.upd _ (vr + 1) (.cells .own 0 [v, .int .i64 (E : Int), .int .i64 (lv : Int)])) (by simp (maxSteps := 9999999) (disch := first | omega | (simp only [hN] <;> omega) | fail) only [go_sem, simprocAttr]) (ht.fr (q := h6.n + 1) (⟨by (first | omega | (simp only [AHeap.alloc_n, AHeap.upd_n]; omega)), fun b hb hne => by (try simp only [AHeap.alloc_n, AHeap.upd_n] at hb hne); simp (maxSteps := 9999999) (disch := first | omega | (simp only [hN] <;> omega) | fail) only [go_sem, simprocAttr]⟩ : Fr (h6.n + 1) h7 _) hlt7 (by omega)) (by omega)
          refine hQ _ _ ⟨by (first | omega | (simp only [AHeap.alloc_n, AHeap.upd_n]; omega)), fun b hb hne => by (try simp only [AHeap.alloc_n, AHeap.upd_n] at hb hne); simp (maxSteps := 9999999) (disch := first | omega | (simp only [hN] <;> omega) | fail) only [go_sem, simprocAttr, hf7.old, hf']⟩ (hpb.fr' (q := h.n) (Fr.upd _ _ _) hlt) ?_
          exact KidsR.one (ver := 0) (kv := kv) (hk7.keep (by omega) (by simp (maxSteps := 9999999) (disch := first | omega | (simp only [hN] <;> omega) | fail) only [go_sem, simprocAttr]; omega) fun b hb1 hb2 => by simp (maxSteps := 9999999) (disch := first | omega | (simp only [hN] <;> omega) | fail) only [go_sem, simprocAttr]) (by omega) (by simp (maxSteps := 9999999) (disch := first | omega | (simp only [hN] <;> omega) | fail) only [go_sem, simprocAttr]; omega) (by simp (maxSteps := 9999999) (disch := first | omega | (simp only [hN] <;> omega) | fail) only [go_sem, simprocAttr])
    · rw [if_neg hi] at hz hQ
      have hi' : isT [[45], [33]] ts = false := by simpa using hi
      simp (maxSteps := 9999999) (disch := first | omega | (simp only [hN] <;> omega) | fail) only [go_sem, simprocAttr, hi']
      refine prim_tok (exprOf_tok unary_ih) hp1 hz ?_
      cases hy : primP E (exprOf (unP E f)) lv ts with
      | error e =>
        obtain ⟨e, p⟩ := e
        rw [hy] at hQ
        intro h2 hf2
        have hn2 := hf2.n; try simp only [AHeap.alloc_n, AHeap.upd_n] at hn2
        simp (maxSteps := 9999999) (disch := first | omega | (simp only [hN] <;> omega) | fail) only [go_sem, simprocAttr]
        exact hQ _ ⟨by (first | omega | (simp only [AHeap.alloc_n, AHeap.upd_n]; omega)), fun b hb hne => by (try simp only [AHeap.alloc_n, AHeap.upd_n] at hb hne); simp (maxSteps := 9999999) (disch := first | omega | (simp only [hN] <;> omega) | fail) only [go_sem, simprocAttr, hf2.old, hf]⟩
      | ok y =>
        obtain ⟨k, ts2⟩ := y
        rw [hy] at hQ
        intro h2 kv hf2 hp2 hk2
        have hn2 := hf2.n; try simp only [AHeap.alloc_n, AHeap.upd_n] at hn2
        have q3 : h2.get h.n = some ⟨0, .cells .own 0 [.int .i64 0, .int .i64 0, .str [], .int .i64 0, .int .i64 0, .int .i64 0, .int .i64 0, .int .u64 0, .nilSlice]⟩ := by rw [hf2.old _ (by omega) (by omega)]; exact q0
        simp (maxSteps := 9999999) (disch := first | omega | (simp only [hN] <;> omega) | fail) only [go_sem, simprocAttr, q3, hk2.flat.1, hk2.flat.2]
        exact hQ _ kv ⟨by (first | omega | (simp only [AHeap.alloc_n, AHeap.upd_n]; omega)), fun b hb hne => by (try simp only [AHeap.alloc_n, AHeap.upd_n] at hb hne); simp (maxSteps := 9999999) (disch := first | omega | (simp only [hN] <;> omega) | fail) only [go_sem, simprocAttr, hf2.old, hf]⟩ (hp2.fr' (q := h.n) (Fr.upd _ _ _) hlt) (hk2.keep (by omega) (by simp (maxSteps := 9999999) (disch := first | omega | (simp only [hN] <;> omega) | fail) only [go_sem, simprocAttr]; exact Nat.le_refl _) fun b hb1 hb2 => by simp (maxSteps := 9999999) (disch := first | omega | (simp only [hN] <;> omega) | fail) only [go_sem, simprocAttr])
end Go.Ev
