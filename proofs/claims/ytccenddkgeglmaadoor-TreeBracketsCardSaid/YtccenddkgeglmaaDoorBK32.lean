/- The statement on brackets. -/
import Derived.Test.YtccenddkgeglmaaDoorBK31
import Derived.Test.YtccenddkgeglmaaDoorL14
import Derived.Test.YtccenddkgeglmaaDoorL16
set_option linter.all false
set_option linter.unusedVariables false
set_option linter.unusedSimpArgs false
namespace Go.Ev
open Go
set_option maxRecDepth 100000
set_option maxHeartbeats 4000000

theorem brackets_law {s : Bs} {h : AHeap} (hG : GH h) (hlen : s.length < 2 ^ 61) : WF F 12 [.str s] h (fun r _ => r = .ret (.bool true)) := by
  refine WF.code F12 rfl ?_
  simp (maxSteps := 9999999) (disch := first | omega | (simp only [hN] <;> omega) | fail) only [go_sem, simprocAttr]
  refine alive06 hG ?_
  intro h1 hf1
  have hn1 := hf1.n; try simp only [AHeap.alloc_n, AHeap.upd_n] at hn1
  have hG1 := hf1.gh hG.n hG
  simp (maxSteps := 9999999) (disch := first | omega | (simp only [hN] <;> omega) | fail) only [go_sem, simprocAttr]
  (first | refine condP_splitN (fun hbig => ?_) (fun hbig => ?_) | refine wantP_splitN (fun hbig => ?_) (fun hbig => ?_) | refine wantPD_splitN (fun hbig => ?_) (fun hbig => ?_) | refine condP_split (fun hbig => ?_) (fun hbig => ?_) | refine wantP_split (fun hbig => ?_) (fun hbig => ?_) | refine wantPD_split (fun hbig => ?_) (fun hbig => ?_))
  · simp (maxSteps := 9999999) (disch := first | omega | (simp only [hN] <;> omega) | fail) only [go_sem, simprocAttr]
  have hs : s.length ≤ 8190 := (by have := of_decide_eq_false hbig; omega)
  simp (maxSteps := 9999999) (disch := first | omega | (simp only [hN] <;> omega) | fail) only [go_sem, simprocAttr]
  refine expr_read (s := s) (by omega) hG1 ?_
  cases hx : exprS s with
  | error x =>
    obtain ⟨e, p⟩ := x
    intro h2 hf2
    have hn2 := hf2.n; try simp only [AHeap.alloc_n, AHeap.upd_n] at hn2
    simp (maxSteps := 9999999) (disch := first | omega | (simp only [hN] <;> omega) | fail) only [go_sem, simprocAttr]
    generalize hH : AHeap.upd _ _ _ _ = H
    have hHn : H.n = h2.n + 2 := by rw [← hH]; simp (maxSteps := 9999999) (disch := first | omega | (simp only [hN] <;> omega) | fail) only [go_sem, simprocAttr]
    have hH1 : H.get (h2.n + 1) = some ⟨1, .cells .own 0 [errAV e, .int .i64 (p : Int)]⟩ := by rw [← hH]; simp (maxSteps := 9999999) (disch := first | omega | (simp only [hN] <;> omega) | fail) only [go_sem, simprocAttr]
    have hHG : GH H := (show Fr h1.n h1 H from ⟨by omega, fun b hb _ => by rw [← hH]; simp (maxSteps := 9999999) (disch := first | omega | (simp only [hN] <;> omega) | fail) only [go_sem, simprocAttr, hf2.old]⟩).gh hG1.n hG1
    clear hH
    refine expr_read (by simp; omega) hHG ?_
    cases hy : exprS (([40] ++ s) ++ [41]) with
    | error y =>
      obtain ⟨e', p'⟩ := y
      intro h3 hf3
      have hn3 := hf3.n; try simp only [AHeap.alloc_n, AHeap.upd_n] at hn3
      simp (maxSteps := 9999999) (disch := first | omega | (simp only [hN] <;> omega) | fail) only [go_sem, simprocAttr, (hf3.all (b := h2.n + 1) (by omega)).trans hH1, eqT_err]
    | ok b =>
      intro h3 kv hf3 hk3
      have hn3 := hf3.n; try simp only [AHeap.alloc_n, AHeap.upd_n] at hn3
      simp (maxSteps := 9999999) (disch := first | omega | (simp only [hN] <;> omega) | fail) only [go_sem, simprocAttr, (hf3.all (b := h2.n + 1) (by omega)).trans hH1, eqT_err, hk3.flat.1, hk3.flat.2]
  | ok a =>
    intro h2 kv hf2 hk2
    have hn2 := hf2.n; try simp only [AHeap.alloc_n, AHeap.upd_n] at hn2
    obtain ⟨hcnt, pp, hpos, hpl⟩ := expr_small hx
    simp (maxSteps := 9999999) (disch := first | omega | (simp only [hN] <;> omega) | fail) only [go_sem, simprocAttr, hk2.flat.1, hk2.flat.2]
    generalize hH : AHeap.upd _ _ _ _ = H
    have hHn : H.n = h2.n + 2 := by rw [← hH]; simp (maxSteps := 9999999) (disch := first | omega | (simp only [hN] <;> omega) | fail) only [go_sem, simprocAttr]
    have hH0 : H.get h2.n = some ⟨1, .cells .own 0 (ndC a kv)⟩ := by rw [← hH]; simp (maxSteps := 9999999) (disch := first | omega | (simp only [hN] <;> omega) | fail) only [go_sem, simprocAttr]
    have hH1 : H.get (h2.n + 1) = some ⟨1, .cells .own 0 [.nilIface, .int .i64 0]⟩ := by rw [← hH]; simp (maxSteps := 9999999) (disch := first | omega | (simp only [hN] <;> omega) | fail) only [go_sem, simprocAttr]
    have hHG : GH H := (show Fr h1.n h1 H from ⟨by omega, fun b hb _ => by rw [← hH]; simp (maxSteps := 9999999) (disch := first | omega | (simp only [hN] <;> omega) | fail) only [go_sem, simprocAttr, hf2.old]⟩).gh hG1.n hG1
    have hk : KidsR 0 H a.kids kv := hk2.keep (Nat.zero_le _) (by omega) fun b hb1 hb2 => by rw [← hH]; simp (maxSteps := 9999999) (disch := first | omega | (simp only [hN] <;> omega) | fail) only [go_sem, simprocAttr]
    clear hH
    refine expr_read (by simp; omega) hHG ?_
    rcases expr_clo hs hx with hy | ⟨y, hy⟩
    · have hy' : exprS (([40] ++ s) ++ [41]) = .ok (shN 1 a) := hy
      rw [hy']
      intro h3 kw hf3 hk3
      have hn3 := hf3.n; try simp only [AHeap.alloc_n, AHeap.upd_n] at hn3
      have q0 := (hf3.all (b := h2.n) (by omega)).trans hH0
      have q1 := (hf3.all (b := h2.n + 1) (by omega)).trans hH1
      simp (maxSteps := 9999999) (disch := first | omega | (simp only [hN] <;> omega) | fail) only [go_sem, simprocAttr, q0, q1, eqT_nil, hk3.flat.1, hk3.flat.2, hk2.flat.1, hk2.flat.2]
      generalize hI : AHeap.upd _ _ _ _ = I
      have hIn : I.n = h3.n + 2 := by rw [← hI]; simp (maxSteps := 9999999) (disch := first | omega | (simp only [hN] <;> omega) | fail) only [go_sem, simprocAttr]
      have i0 : I.get h2.n = some ⟨1, .cells .own 0 (ndC a kv)⟩ := by rw [← hI]; simp (maxSteps := 9999999) (disch := first | omega | (simp only [hN] <;> omega) | fail) only [go_sem, simprocAttr, q0]
      have i1 : I.get h3.n = some ⟨1, .cells .own 0 (ndC (shN 1 a) kw)⟩ := by rw [← hI]; simp (maxSteps := 9999999) (disch := first | omega | (simp only [hN] <;> omega) | fail) only [go_sem, simprocAttr]
      have ka : KidsR 0 I a.kids kv := hk.keep (Nat.zero_le _) (by omega) fun b hb1 hb2 => by rw [← hI]; simp (maxSteps := 9999999) (disch := first | omega | (simp only [hN] <;> omega) | fail) only [go_sem, simprocAttr, hf3.old]
      have kb : KidsR 0 I (shN 1 a).kids kw := hk3.keep (Nat.zero_le _) (by omega) fun b hb1 hb2 => by rw [← hI]; simp (maxSteps := 9999999) (disch := first | omega | (simp only [hN] <;> omega) | fail) only [go_sem, simprocAttr]
      clear hI
      have hcb : (shN 1 a).count = a.count := count_sh 1 a
      have hdb : (shN 1 a).depth = a.depth := depth_sh 1 a
      have hpb : (shN 1 a).pos = a.pos + 1 := pos_sh 1 a
      have hsb : a.same (shN 1 a) = true := same_sh 1 a
      generalize shN 1 a = b at *
      refine same_spec 2000 (by decide) hcnt ka kb ?_
      intro h4 hf4
      have hn4 := hf4.n; try simp only [AHeap.alloc_n, AHeap.upd_n] at hn4
      have j0 := (hf4.all (b := h2.n) (by omega)).trans i0
      have j1 := (hf4.all (b := h3.n) (by omega)).trans i1
      have e1 : (a.pos + 1 == b.pos) = true := by rw [hpb, beq_self_eq_true]
      simp (maxSteps := 9999999) (disch := first | omega | (simp only [hN] <;> omega) | fail) only [go_sem, simprocAttr, j0, j1, hsb, hk3.flat.1, hk3.flat.2, hk2.flat.1, hk2.flat.2]
      rw [hpos] at e1 ⊢
      simp (maxSteps := 9999999) (disch := first | omega | (simp only [hN] <;> omega) | fail) only [go_sem, simprocAttr, e1, j0, j1, hk3.flat.1, hk3.flat.2, hk2.flat.1, hk2.flat.2]
      refine count_spec 2000 hcnt (by decide) (ka.fr hf4 (.inr (Nat.le_refl _))) ?_
      intro h5 hf5
      have hn5 := hf5.n; try simp only [AHeap.alloc_n, AHeap.upd_n] at hn5
      have j2 := (hf5.all (b := h3.n) (by omega)).trans j1
      have j3 := (hf5.all (b := h2.n) (by omega)).trans j0
      simp (maxSteps := 9999999) (disch := first | omega | (simp only [hN] <;> omega) | fail) only [go_sem, simprocAttr, j0, j1, j2, j3, hk3.flat.1, hk3.flat.2, hk2.flat.1, hk2.flat.2]
      refine count_spec 2000 (by omega) (by decide) ((kb.fr hf4 (.inr (Nat.le_refl _))).fr hf5 (.inr (Nat.le_refl _))) ?_
      intro h6 hf6
      have hn6 := hf6.n; try simp only [AHeap.alloc_n, AHeap.upd_n] at hn6
      have j4 := (hf6.all (b := h3.n) (by omega)).trans j2
      have j5 := (hf6.all (b := h2.n) (by omega)).trans j3
      simp (maxSteps := 9999999) (disch := first | omega | (simp only [hN] <;> omega) | fail) only [go_sem, simprocAttr, j0, j1, j2, j3, j4, j5, hcb, hk3.flat.1, hk3.flat.2, hk2.flat.1, hk2.flat.2]
      refine depth_spec 2000 hcnt (by decide) (((ka.fr hf4 (.inr (Nat.le_refl _))).fr hf5 (.inr (Nat.le_refl _))).fr hf6 (.inr (Nat.le_refl _))) ?_
      intro h7 hf7
      have hn7 := hf7.n; try simp only [AHeap.alloc_n, AHeap.upd_n] at hn7
      have j6 := (hf7.all (b := h3.n) (by omega)).trans j4
      have j7 := (hf7.all (b := h2.n) (by omega)).trans j5
      simp (maxSteps := 9999999) (disch := first | omega | (simp only [hN] <;> omega) | fail) only [go_sem, simprocAttr, j0, j1, j2, j3, j4, j5, j6, j7, hk3.flat.1, hk3.flat.2, hk2.flat.1, hk2.flat.2]
      refine depth_spec 2000 (by omega) (by decide) ((((kb.fr hf4 (.inr (Nat.le_refl _))).fr hf5 (.inr (Nat.le_refl _))).fr hf6 (.inr (Nat.le_refl _))).fr hf7 (.inr (Nat.le_refl _))) ?_
      intro h8 hf8
      have hn8 := hf8.n; try simp only [AHeap.alloc_n, AHeap.upd_n] at hn8
      have j8 := (hf8.all (b := h3.n) (by omega)).trans j6
      have j9 := (hf8.all (b := h2.n) (by omega)).trans j7
      simp (maxSteps := 9999999) (disch := first | omega | (simp only [hN] <;> omega) | fail) only [go_sem, simprocAttr, j0, j1, j2, j3, j4, j5, j6, j7, j8, j9, hdb, hk3.flat.1, hk3.flat.2, hk2.flat.1, hk2.flat.2]
    · have hy' : exprS (([40] ++ s) ++ [41]) = .error y := hy
      rw [hy']
      obtain ⟨e', p'⟩ := y
      intro h3 hf3
      have hn3 := hf3.n; try simp only [AHeap.alloc_n, AHeap.upd_n] at hn3
      simp (maxSteps := 9999999) (disch := first | omega | (simp only [hN] <;> omega) | fail) only [go_sem, simprocAttr, (hf3.all (b := h2.n + 1) (by omega)).trans hH1, eqT_nil, eqT_err]
end Go.Ev
