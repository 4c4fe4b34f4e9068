/- The statements on tokens: the chapter's example; every int in digits. -/
import Derived.Test.YtccenddkgeglmaaDoorBK10
set_option linter.all false
set_option linter.unusedVariables false
set_option linter.unusedSimpArgs false
namespace Go.Ev
open Go
set_option maxRecDepth 100000
set_option maxHeartbeats 4000000

theorem Fr.all {h h' : AHeap} (f : Fr h.n h h') {b : Nat} (hb : b < h.n) : h'.get b = h.get b := f.old b hb (by omega)
theorem Sl.block {es lo n : Nat} {h : AHeap} {v : AV} {cs : List AV} (s : Sl es lo h v n cs) (hn : 0 < n) : ∃ b ver, v = .slice b 0 n n false ∧ lo ≤ b ∧ b < h.n ∧ h.get b = some ⟨ver, .cells .own es cs⟩ := by
  obtain ⟨_, ⟨rfl, _⟩ | ⟨_, h⟩⟩ := s
  · omega
  · exact h

theorem alive1 : tokens [120, 58, 61, 49, 59] = .ok [⟨1, [120], 0, 0, 0⟩, ⟨5, [58, 61], 0, 0, 1⟩, ⟨3, [49], 1, 0, 3⟩, ⟨5, [59], 0, 0, 4⟩] := by rfl
theorem alive2 : tokens [48, 49] = .error (2, 1) := by rfl

theorem alive05 {h : AHeap} (hG : GH h) {Q : QR} (hQ : ∀ h', Fr h.n h h' → Q (.ret (.bool true)) h') : WF F 14 [] h Q := by
  refine WF.code F14 rfl ?_
  simp (maxSteps := 9999999) (disch := first | omega | (simp only [hN] <;> omega) | fail) only [go_sem, simprocAttr]
  refine tokens_spec hG (by decide) ?_
  rw [alive1]
  intro h1 v1 hf1 hts1
  have hG1 := hf1.gh hG.n hG
  obtain ⟨b1, ver1, rfl, hlo1, hb1, hc1⟩ := hts1.block (by decide)
  have hc1' : h1.get b1 = some ⟨ver1, .cells .own 5 [.int .i64 1, .str [120], .int .i64 0, .int .u64 0, .int .i64 0, .int .i64 5, .str [58, 61], .int .i64 0, .int .u64 0, .int .i64 1, .int .i64 3, .str [49], .int .i64 1, .int .u64 0, .int .i64 3, .int .i64 5, .str [59], .int .i64 0, .int .u64 0, .int .i64 4]⟩ := hc1
  have hn1 := hf1.n; try simp only [AHeap.alloc_n, AHeap.upd_n] at hn1
  simp (maxSteps := 9999999) (disch := first | omega | (simp only [hN] <;> omega) | fail) only [go_sem, simprocAttr]
  refine tokens_spec ((hG1.alloc _).upd (by have := hG1.n; omega) _ _) (by decide) ?_
  rw [alive2]
  intro h2 hf2
  have hn2 := hf2.n; try simp only [AHeap.alloc_n, AHeap.upd_n] at hn2
  have hG2 : GH h2 := hf2.gh (by have := hG1.n; simp only [AHeap.alloc_n, AHeap.upd_n]; omega) ((hG1.alloc _).upd (by have := hG1.n; omega) _ _)
  simp (maxSteps := 9999999) (disch := first | omega | (simp only [hN] <;> omega) | fail) only [go_sem, simprocAttr, hf2.old, hc1', eqT_nil]
  refine num_spec (e := 2) ((hG2.alloc _).upd (by have := hG2.n; omega) _ _) (by decide) (by decide) ?_
  intro h3 hf3
  have hn3 := hf3.n; try simp only [AHeap.alloc_n, AHeap.upd_n] at hn3
  simp (maxSteps := 9999999) (disch := first | omega | (simp only [hN] <;> omega) | fail) only [go_sem, simprocAttr, hf3.old, hf2.old]
  exact hQ _ ⟨by omega, fun b hb hne => by simp (maxSteps := 9999999) (disch := first | omega | (simp only [hN] <;> omega) | fail) only [go_sem, simprocAttr, hf3.old, hf2.old, hf1.old]⟩
end Go.Ev
