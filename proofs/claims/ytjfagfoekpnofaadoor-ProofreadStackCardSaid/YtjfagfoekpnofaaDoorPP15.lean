/- The statement on the stack's height. -/
import Derived.Test.YtjfagfoekpnofaaDoorPP11
import Derived.Test.YtjfagfoekpnofaaDoorPuA
set_option linter.all false
set_option linter.unusedVariables false
set_option linter.unusedSimpArgs false
namespace Go.Ev
open Go
set_option maxRecDepth 100000
set_option maxHeartbeats 4000000

theorem foldl_max : ∀ (ls : List (List Int)) (a : Nat), a ≤ ls.foldl (fun n s => max n s.length) a ∧ (∀ s ∈ ls, s.length ≤ ls.foldl (fun n s => max n s.length) a)
  | [], a => ⟨Nat.le_refl _, fun _ h => by cases h⟩
  | x :: ls, a => by
    obtain ⟨h1, h2⟩ := foldl_max ls (max a x.length)
    rw [List.foldl_cons]
    refine ⟨by omega, fun s hs => ?_⟩
    rcases List.mem_cons.1 hs with rfl | hs
    · omega
    · exact h2 s hs
theorem foldl_max_le : ∀ (ls : List (List Int)) (a m : Nat), a ≤ m → (∀ s ∈ ls, s.length ≤ m) → ls.foldl (fun n s => max n s.length) a ≤ m
  | [], a, m, h, _ => h
  | x :: ls, a, m, h, hl => by
    rw [List.foldl_cons]
    exact foldl_max_le ls _ m (by have := hl x List.mem_cons_self; omega) fun s hs => hl s (List.mem_cons_of_mem _ hs)
theorem deep_high {n : Nat} (h1 : 1 ≤ n) : deepP ((List.range (2 * n + 1)).map fun j => ones (high n j)) = n := by
  apply Nat.le_antisymm
  · refine foldl_max_le _ _ _ (Nat.zero_le _) fun s hs => ?_
    obtain ⟨j, _, rfl⟩ := List.mem_map.1 hs
    rw [ones_len]
    unfold high
    split <;> omega
  · have := (foldl_max ((List.range (2 * n + 1)).map fun j => ones (high n j)) 0).2 (ones (high n n)) (List.mem_map.2 ⟨n, by simp; omega, rfl⟩)
    rw [ones_len, show high n n = n from if_pos (Nat.le_refl _)] at this
    exact this
theorem stack_law {p : Int} {h : AHeap} (hG : GH h) : WF F 5 [.int .i64 p] h (fun r _ => r = .ret (.bool true)) := by
  refine WF.code F5 rfl ?_
  simp (disch := first | omega | (simp only [hN] <;> omega) | fail) only [go_sem, simprocAttr]
  refine alive_spec hG ?_
  intro h1 hf1
  have hn1 := hf1.n; try simp only [hN] at hn1
  have hG1 := hf1.gh hG.n hG
  obtain ⟨i, hi, ei⟩ := wrapN p 100 (by decide) (by decide)
  obtain ⟨N, hNi⟩ : ∃ N, N = i + 1 := ⟨_, rfl⟩
  have eM : (1 : Int) + (i : Int) = (N : Int) := by omega
  have eM1 : (N : Int) - 1 = ((N - 1 : Nat) : Int) := by omega
  have ei' : wr .i64 ((wr .u64 p).tmod 100) = (i : Int) := ei
  simp (disch := first | omega | (simp only [hN] <;> omega) | fail) only [go_sem, simprocAttr, ei', eM]
  generalize hHH : AHeap.upd (AHeap.alloc (AHeap.alloc (AHeap.alloc h1 _) _) _) _ _ _ = H
  have hHn : H.n = h1.n + 3 := by rw [← hHH]; simp (disch := first | omega | (simp only [hN] <;> omega) | fail) only [go_sem, simprocAttr]
  have bP : H.get h1.n = some ⟨0, .cells .own 1 [.int .i64 1]⟩ := by rw [← hHH]; simp (disch := first | omega | (simp only [hN] <;> omega) | fail) only [go_sem, simprocAttr]
  have bF : H.get (h1.n + 1) = some ⟨0, .cells .own 3 [.int .i64 0, .int .i64 0, .nilSlice]⟩ := by rw [← hHH]; simp (disch := first | omega | (simp only [hN] <;> omega) | fail) only [go_sem, simprocAttr]
  have bC : H.get (h1.n + 1 + 1) = some ⟨1, .cells .own 0 [.slice h1.n 0 1 1 true, .int .i64 0, .int .i64 0, .nilSlice, .slice (h1.n + 1) 0 1 1 true, .int .i64 0, .nilSlice]⟩ := by rw [← hHH]; simp (disch := first | omega | (simp only [hN] <;> omega) | fail) only [go_sem, simprocAttr]
  have hF : Fr h1.n h1 H := by
    rw [← hHH]
    exact ((((Fr.refl _ _).alloc _).alloc _).alloc _).updNew (by omega) _ _
  have hGH := hF.gh hG1.n hG1
  have hGn := hG1.n
  clear hHH hf1 hG1
  generalize h1.n = B at *
  refine wp_loopx 0 (fun m a h' => ∃ (i : Nat) (v : AV) (ver : Nat), m = N - i ∧ i ≤ N ∧ B + 3 ≤ h'.n ∧ (∀ b, b < B + 2 → h'.get b = H.get b) ∧ h'.get (B + 1 + 1) = some ⟨ver, .cells .own 0 [.slice B 0 1 1 true, .int .i64 0, .int .i64 0, .nilSlice, .slice (B + 1) 0 1 1 true, .int .i64 0, v]⟩ ∧ Sl 5 (B + 3) h' v (i) (((stackB N).take (i)).flatMap insC) ∧ a.tm.get 0 = some (.int .i64 (N : Int)) ∧ a.tm.get 3 = some (.ptr (B + 1 + 1) 0) ∧ a.tm.get 17 = some (.int .i64 ((N : Nat) : Int)) ∧ a.tm.get 18 = some (.int .i64 (i : Int)) ∧ a.df = [])
    (fun a h' => ∃ (v : AV) (ver : Nat), B + 3 ≤ h'.n ∧ (∀ b, b < B + 2 → h'.get b = H.get b) ∧ h'.get (B + 1 + 1) = some ⟨ver, .cells .own 0 [.slice B 0 1 1 true, .int .i64 0, .int .i64 0, .nilSlice, .slice (B + 1) 0 1 1 true, .int .i64 0, v]⟩ ∧ Sl 5 (B + 3) h' v (N) (((stackB N).take (N)).flatMap insC) ∧ a.tm.get 0 = some (.int .i64 (N : Int)) ∧ a.tm.get 3 = some (.ptr (B + 1 + 1) 0) ∧ a.df = []) ?_ ?_ (N) ?_
  · rintro m ⟨tt, df⟩ h2 ⟨j, v, ver, hm, hj, hB, ho, hc, hs, k0, k3, k17, k18, hdf⟩
    simp only at k0 k3 k17 k18 hdf
    subst hdf
    by_cases hjl : j < N
    · have i2 : decide ((j : Int) < ((N : Nat) : Int)) = true := decide_eq_true (by omega)
      have jN : ((j : Int) + 1) = ((j + 1 : Nat) : Int) := by omega
      have hx : stackIns N (j) = ⟨1, 0, 0, 0, 0⟩ := by
        unfold stackIns
        rw [if_pos (by omega)]
      have hs3 : Sl 5 (B + 3) (h2.alloc (.cells .own 5 (insC ⟨1, 0, 0, 0, 0⟩))) v (j) (((stackB N).take (j)).flatMap insC) := by
        obtain ⟨y1, y2⟩ := hs
        refine ⟨y1, y2.imp id ?_⟩
        rintro ⟨y3, b, vr, e, y4, y5, y6⟩
        exact ⟨y3, b, vr, e, y4, by simp (disch := first | omega | (simp only [hN] <;> omega) | fail) only [go_sem, simprocAttr]; omega, by simp (disch := first | omega | (simp only [hN] <;> omega) | fail) only [go_sem, simprocAttr]; exact y6⟩
      obtain ⟨v6, h6, happ, hs6, hn6, ho6⟩ := hs3.append (k := 1) (bytes := 40) (new := insC ⟨1, 0, 0, 0, 0⟩) (by decide) (by simp (disch := first | omega | (simp only [hN] <;> omega) | fail) only [go_sem, simprocAttr]; omega) rfl rfl (by simp only [room]; omega) (by simp only [room]; omega) (by decide)
      have hsf := hs3.flat
      have hsf6 := hs6.flat
      have hc6 : h6.get (B + 1 + 1) = some ⟨ver, .cells .own 0 [.slice B 0 1 1 true, .int .i64 0, .int .i64 0, .nilSlice, .slice (B + 1) 0 1 1 true, .int .i64 0, v]⟩ := by rw [ho6 _ (by omega)]; simp (disch := first | omega | (simp only [hN] <;> omega) | fail) only [go_sem, simprocAttr, hc]
      simp only [insC] at happ
      simp only [hN] at hn6
      simp (disch := first | omega | (simp only [hN] <;> omega) | fail) only [go_sem, simprocAttr, k0, k3, k17, k18, i2, hc, hc6, happ, hsf.1, hsf.2, hsf6.1, hsf6.2, jN]
      have htk : ((stackB N).take (j + 1)).flatMap insC = ((stackB N).take (j)).flatMap insC ++ insC ⟨1, 0, 0, 0, 0⟩ := by
        rw [List.take_add_one, stackB_get (by omega), List.flatMap_append, hx]
        simp
      refine ⟨N - (j + 1), by omega, j + 1, v6, ver + 1, rfl, by omega, by omega, fun b hb => ?_, rfl, ?_, rfl⟩
      · have : b ≠ B + 1 + 1 := by omega
        simp (disch := first | omega | (simp only [hN] <;> omega) | fail) only [go_sem, simprocAttr, ho6 b (show b < B + 3 by omega)]
        exact ho b hb
      · rw [htk]
        exact hs6.fr (Fr.upd _ _ _) (.inl (by omega))
    · have i2 : decide ((j : Int) < ((N : Nat) : Int)) = false := decide_eq_false (by omega)
      simp (disch := first | omega | (simp only [hN] <;> omega) | fail) only [go_sem, simprocAttr, k0, k3, k17, k18, i2]
      obtain rfl : j = N := by omega
      exact ⟨v, ver, hB, ho, hc, hs⟩
  · rintro ⟨tt, df⟩ h2 ⟨v, ver, hB, ho, hc, hs, k0, k3, hdf⟩
    simp only at k0 k3 hdf
    subst hdf
    simp (disch := first | omega | (simp only [hN] <;> omega) | fail) only [go_sem, simprocAttr, k0, k3, eM1]
    refine wp_loopx 2 (fun m a h' => ∃ (i : Nat) (v : AV) (ver : Nat), m = N - 1 - i ∧ i ≤ N - 1 ∧ B + 3 ≤ h'.n ∧ (∀ b, b < B + 2 → h'.get b = H.get b) ∧ h'.get (B + 1 + 1) = some ⟨ver, .cells .own 0 [.slice B 0 1 1 true, .int .i64 0, .int .i64 0, .nilSlice, .slice (B + 1) 0 1 1 true, .int .i64 0, v]⟩ ∧ Sl 5 (B + 3) h' v (N + i) (((stackB N).take (N + i)).flatMap insC) ∧ a.tm.get 0 = some (.int .i64 (N : Int)) ∧ a.tm.get 3 = some (.ptr (B + 1 + 1) 0) ∧ a.tm.get 28 = some (.int .i64 ((N - 1 : Nat) : Int)) ∧ a.tm.get 29 = some (.int .i64 (i : Int)) ∧ a.df = [])
      (fun a h' => ∃ (v : AV) (ver : Nat), B + 3 ≤ h'.n ∧ (∀ b, b < B + 2 → h'.get b = H.get b) ∧ h'.get (B + 1 + 1) = some ⟨ver, .cells .own 0 [.slice B 0 1 1 true, .int .i64 0, .int .i64 0, .nilSlice, .slice (B + 1) 0 1 1 true, .int .i64 0, v]⟩ ∧ Sl 5 (B + 3) h' v (N + (N - 1)) (((stackB N).take (N + (N - 1))).flatMap insC) ∧ a.tm.get 0 = some (.int .i64 (N : Int)) ∧ a.tm.get 3 = some (.ptr (B + 1 + 1) 0) ∧ a.df = []) ?_ ?_ (N - 1) ?_
    · rintro m ⟨tt, df⟩ h2 ⟨j, v, ver, hm, hj, hB, ho, hc, hs, k0, k3, k17, k18, hdf⟩
      simp only at k0 k3 k17 k18 hdf
      subst hdf
      by_cases hjl : j < N - 1
      · have i2 : decide ((j : Int) < ((N - 1 : Nat) : Int)) = true := decide_eq_true (by omega)
        have jN : ((j : Int) + 1) = ((j + 1 : Nat) : Int) := by omega
        have hx : stackIns N (N + j) = ⟨11, 1, 0, 0, 0⟩ := by
          unfold stackIns
          rw [if_neg (by omega), if_pos (by omega)]
        have hs3 : Sl 5 (B + 3) (h2.alloc (.cells .own 5 (insC ⟨11, 1, 0, 0, 0⟩))) v (N + j) (((stackB N).take (N + j)).flatMap insC) := by
          obtain ⟨y1, y2⟩ := hs
          refine ⟨y1, y2.imp id ?_⟩
          rintro ⟨y3, b, vr, e, y4, y5, y6⟩
          exact ⟨y3, b, vr, e, y4, by simp (disch := first | omega | (simp only [hN] <;> omega) | fail) only [go_sem, simprocAttr]; omega, by simp (disch := first | omega | (simp only [hN] <;> omega) | fail) only [go_sem, simprocAttr]; exact y6⟩
        obtain ⟨v6, h6, happ, hs6, hn6, ho6⟩ := hs3.append (k := 1) (bytes := 40) (new := insC ⟨11, 1, 0, 0, 0⟩) (by decide) (by simp (disch := first | omega | (simp only [hN] <;> omega) | fail) only [go_sem, simprocAttr]; omega) rfl rfl (by simp only [room]; omega) (by simp only [room]; omega) (by decide)
        have hsf := hs3.flat
        have hsf6 := hs6.flat
        have hc6 : h6.get (B + 1 + 1) = some ⟨ver, .cells .own 0 [.slice B 0 1 1 true, .int .i64 0, .int .i64 0, .nilSlice, .slice (B + 1) 0 1 1 true, .int .i64 0, v]⟩ := by rw [ho6 _ (by omega)]; simp (disch := first | omega | (simp only [hN] <;> omega) | fail) only [go_sem, simprocAttr, hc]
        simp only [insC] at happ
        simp only [hN] at hn6
        simp (disch := first | omega | (simp only [hN] <;> omega) | fail) only [go_sem, simprocAttr, k0, k3, k17, k18, i2, hc, hc6, happ, hsf.1, hsf.2, hsf6.1, hsf6.2, jN]
        have htk : ((stackB N).take (N + j + 1)).flatMap insC = ((stackB N).take (N + j)).flatMap insC ++ insC ⟨11, 1, 0, 0, 0⟩ := by
          rw [List.take_add_one, stackB_get (by omega), List.flatMap_append, hx]
          simp
        refine ⟨N - 1 - (j + 1), by omega, j + 1, v6, ver + 1, rfl, by omega, by omega, fun b hb => ?_, rfl, ?_, rfl⟩
        · have : b ≠ B + 1 + 1 := by omega
          simp (disch := first | omega | (simp only [hN] <;> omega) | fail) only [go_sem, simprocAttr, ho6 b (show b < B + 3 by omega)]
          exact ho b hb
        · rw [← Nat.add_assoc]
          rw [htk]
          exact hs6.fr (Fr.upd _ _ _) (.inl (by omega))
      · have i2 : decide ((j : Int) < ((N - 1 : Nat) : Int)) = false := decide_eq_false (by omega)
        simp (disch := first | omega | (simp only [hN] <;> omega) | fail) only [go_sem, simprocAttr, k0, k3, k17, k18, i2]
        obtain rfl : j = N - 1 := by omega
        exact ⟨v, ver, hB, ho, hc, hs⟩
    · rintro ⟨tt, df⟩ h3 ⟨v, ver, hB, ho, hc, hs, k0, k3, hdf⟩
      simp only at k0 k3 hdf
      subst hdf
      have hs3 : Sl 5 (B + 3) (h3.alloc (.cells .own 5 (insC ⟨7, 0, 0, 0, 0⟩ ++ insC ⟨25, 0, 0, 0, 0⟩))) v (N + (N - 1)) (((stackB N).take (N + (N - 1))).flatMap insC) := by
        obtain ⟨y1, y2⟩ := hs
        refine ⟨y1, y2.imp id ?_⟩
        rintro ⟨y3, b, vr, e, y4, y5, y6⟩
        exact ⟨y3, b, vr, e, y4, by simp (disch := first | omega | (simp only [hN] <;> omega) | fail) only [go_sem, simprocAttr]; omega, by simp (disch := first | omega | (simp only [hN] <;> omega) | fail) only [go_sem, simprocAttr]; exact y6⟩
      obtain ⟨v6, h6, happ, hs6, hn6, ho6⟩ := hs3.append (k := 2) (bytes := 40) (new := insC ⟨7, 0, 0, 0, 0⟩ ++ insC ⟨25, 0, 0, 0, 0⟩) (by decide) (by simp (disch := first | omega | (simp only [hN] <;> omega) | fail) only [go_sem, simprocAttr]; omega) rfl rfl (by simp only [room]; omega) (by simp only [room]; omega) (by decide)
      have hsf := hs3.flat
      have hsf6 := hs6.flat
      have hc6 : h6.get (B + 1 + 1) = some ⟨ver, .cells .own 0 [.slice B 0 1 1 true, .int .i64 0, .int .i64 0, .nilSlice, .slice (B + 1) 0 1 1 true, .int .i64 0, v]⟩ := by rw [ho6 _ (by omega)]; simp (disch := first | omega | (simp only [hN] <;> omega) | fail) only [go_sem, simprocAttr, hc]
      simp only [insC, List.cons_append, List.nil_append] at happ
      simp only [hN] at hn6
      have htk : ((stackB N).take (N + (N - 1))).flatMap insC ++ (insC ⟨7, 0, 0, 0, 0⟩ ++ insC ⟨25, 0, 0, 0, 0⟩) = (stackB N).flatMap insC := by
        have e1 : stackB N = (stackB N).take (N + (N - 1)) ++ [⟨7, 0, 0, 0, 0⟩, ⟨25, 0, 0, 0, 0⟩] := by
          have g1 := stackB_get (n := N) (i := N + (N - 1)) (by omega)
          have g2 := stackB_get (n := N) (i := N + (N - 1) + 1) (by omega)
          have x1 : stackIns N (N + (N - 1)) = ⟨7, 0, 0, 0, 0⟩ := by
            rw [stackIns, if_neg (by omega), if_neg (by omega), if_pos (by omega)]
          have x2 : stackIns N (N + (N - 1) + 1) = ⟨25, 0, 0, 0, 0⟩ := by
            rw [stackIns, if_neg (by omega), if_neg (by omega), if_neg (by omega)]
          have := stackB_len (n := N)
          calc stackB N = (stackB N).take (N + (N - 1) + 1 + 1) := (List.take_of_length_le (by omega)).symm
            _ = _ := by rw [List.take_add_one, List.take_add_one, g1, g2, x1, x2]; simp
        rw [show ((stackB N).flatMap insC) = ((stackB N).take (N + (N - 1)) ++ ([⟨7, 0, 0, 0, 0⟩, ⟨25, 0, 0, 0, 0⟩] : List Ins)).flatMap insC by rw [← e1], List.flatMap_append]
        rfl
      simp (disch := first | omega | (simp only [hN] <;> omega) | fail) only [go_sem, simprocAttr, k0, k3, hc, hc6, happ, hsf.1, hsf.2, hsf6.1, hsf6.2]
      rw [htk] at hs6
      have hs7 := hs6.fr (Fr.upd (r := B + 1 + 1) h6 (ver + 1) (.cells .own 0 [.slice B 0 1 1 true, .int .i64 0, .int .i64 0, .nilSlice, .slice (B + 1) 0 1 1 true, .int .i64 0, v6])) (.inl (by omega))
      have hcnt : N + (N - 1) + 2 = (stackB N).length := by rw [stackB_len]; omega
      rw [hcnt] at hs7
      generalize hX : AHeap.upd h6 _ _ _ = X at hs7 ⊢
      have hXn : X.n = h6.n := by rw [← hX]; simp (disch := first | omega | (simp only [hN] <;> omega) | fail) only [go_sem, simprocAttr]
      have hXo : ∀ b, b < B + 2 → X.get b = H.get b := fun b hb => by
        rw [← hX, AHeap.get_upd, if_neg (by omega), ho6 b (by omega)]
        simp (disch := first | omega | (simp only [hN] <;> omega) | fail) only [go_sem, simprocAttr]
        exact ho b hb
      clear hX
      have hC2 : CdV X (stackC N) (.slice B 0 1 1 true) .nilSlice (.slice (B + 1) 0 1 1 true) v6 :=
        cdv_one (ver := 0) rfl rfl ⟨ints_new (ver := 0) (l := [1]) (by decide) (by omega) ((hXo B (by omega)).trans bP), .inr ⟨B, 0, 1, true, rfl, Nat.le_refl _, .inl rfl⟩⟩ (hs7.slv (by rw [stackB_len]; omega)) (by omega) ((hXo (B + 1) (by omega)).trans bF)
      have hG2 : GH X := ⟨by omega, fun g hg => by rw [hXo g (by omega)]; exact hGH.gl g hg, fun g hg => by rw [hXo _ (by omega)]; exact hGH.st g hg⟩
      refine pdeep_spec (c := stackC N) hG2 hC2 ?_
      by_cases hbig : 64 < N
      · rw [stack_none hbig (by omega)]
        intro h7 hf7
        have hG7 := hf7.gh hG2.n hG2
        have g1 : decide ((N : Int) > 64) = true := decide_eq_true (by omega)
        simp (disch := first | omega | (simp only [hN] <;> omega) | fail) only [go_sem, simprocAttr, k0, k3, g1]
        refine num_spec hG7 (by decide) (by decide) ?_
        intro h8 hf8
        simp (disch := first | omega | (simp only [hN] <;> omega) | fail) only [go_sem, simprocAttr]
      · rw [stack_some (by omega) (by omega)]
        simp only
        rw [deep_high (by omega)]
        intro h7 hf7
        have g1 : decide ((N : Int) > 64) = false := decide_eq_false (by omega)
        simp (disch := first | omega | (simp only [hN] <;> omega) | fail) only [go_sem, simprocAttr, k0, k3, g1, eqT_nil, beq_self_eq_true]
    · simp (disch := first | omega | (simp only [hN] <;> omega) | fail) only [go_sem, simprocAttr, k0, k3]
      exact ⟨0, v, ver, rfl, Nat.zero_le _, hB, ho, hc, hs, rfl⟩
  · simp (disch := first | omega | (simp only [hN] <;> omega) | fail) only [go_sem, simprocAttr]
    exact ⟨0, .nilSlice, 1, rfl, Nat.zero_le _, by omega, fun _ _ => trivial, bC, Sl.nil, rfl⟩
end Go.Ev
